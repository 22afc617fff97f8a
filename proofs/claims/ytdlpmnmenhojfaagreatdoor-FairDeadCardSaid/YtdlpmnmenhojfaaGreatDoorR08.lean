/- Part 8 of what the proof stands on: KnClkT, KnAcc, KnMap, KnAlc, KnGet, KnTabB, KnTabE. -/
import Derived.Test.YtdlpmnmenhojfaaGreatDoorR07
set_option linter.unusedVariables false
set_option maxHeartbeats 40000000
set_option maxRecDepth 100000
variable {zP:Prop}
namespace Go.Proofs.YtdlpmnmenhojfaaGreatDoor
open Go.IntKind renaming i64->Z,u64->J
open Go.Value renaming int->E,pointer->Y,slice->Sl
open Option renaming none->O,some->V
open Go.Obj renaming cells->Ce
open Go.Ending renaming returned->Rt
open Go.Proofs.Tryz renaming prog->Tp
namespace Kn
open Go.RowKit Go.Maps Asm Hp
theorem zgy {α:Type} {p:α→Bool}: ∀{D T:List α},(∀x∈D,p x=true)→(∀x,T.head?=some x→p x=false)→(D++T).takeWhile p=D∧(D++T).dropWhile p=T
 |[],[],_,_=>⟨rfl,rfl⟩
 |[],a::T,_,h=>by
  have:=h a rfl
  simp[this]
 |a::D,T,hd,ht=>by
  have h1:=hd a List.mem_cons_self
  obtain ⟨e1,e2⟩:=zgy (fun x hx=>hd x (List.mem_cons_of_mem _ hx)) ht
  rw[List.cons_append,List.takeWhile_cons,List.dropWhile_cons,h1]
  exact ⟨by rw[if_pos rfl,e1],by rw[if_pos rfl,e2]⟩
def zcc (l:List Int):List Value:=l.map fun x=> E J x
def zjK (w:World) (C hb hm:Nat) (v:Value) (ab:Nat) (c:bJ) (N K:Nat) (e:Ending) (w':World):Prop:=
 ∃lv,e= .returned lv∧w'.ownsRow w.heap.size 22 1 lv c.due.length (zcc c.due)∧ ∃N',N'≤N+3010*c.due.length∧ztW w C hb hm v ab c.tick N' K w'
theorem zsG:(Tryz.prog.info? 22).map (fun i=>(i.zero,i.size,i.bytes))=V (some (E J 0),1,8):=Y4
theorem Bc {w:World} {C hb hm:Nat} {v lv:Value} {ab:Nat} {c:bJ} {N K B n:Nat} {xs:List Value} (h:KE w C hb hm v ab c N K) (hr:w.ownsRow B 22 1 lv n xs) {g:Nat} (hg:lv.ownBlock=some g): ¬OfC C hb hm v ab g:=by
 obtain ⟨cur,hc⟩:=Asm.Zz hr hg;obtain ⟨l,f,hraw,_⟩:=h.heap;obtain ⟨es,cc,hme⟩:=h.by'.isMap;obtain ⟨es2,I5,rY⟩:=hraw.map.isMap;have ho:=hraw.obj;unfold bL at ho;rintro (e|e|e|e|e)
 ·exact Zp hc h.obj Y2 e
 ·rw[e,hme] at hc;cases hc
 ·exact Zp hc ho Y2 e
 ·rw[e,rY] at hc;cases hc
 ·obtain ⟨Rf,hc2⟩:=Hp.Zz hraw.row e;exact Zp hc hc2 Y2 rfl
theorem zry {c:bJ} {D T:List zC} (h:c.S=D++T∧ ∀x∈D,x.d≤c.now+1) (ht: ∀x,T.head?=some x→ ¬x.d≤c.now+1):c.due=D.map (·.w)∧c.tick={ c with now:=c.now+1,S:=T}:=by
 obtain ⟨h1,h2⟩:=h;obtain ⟨e1,e2⟩:=zgy (p:=fun t:zC=>decide (t.d≤c.now+1)) (D:=D) (T:=T) (fun x hx=>decide_eq_true (h2 x hx)) (fun x hx=>decide_eq_false (ht x hx));unfold bJ.due bJ.tick;rw[h1,e1,e2];exact ⟨rfl,rfl⟩
theorem zha {w wr:World} {C hb hm:Nat} {v v' sv:Value} {ab:Nat} {c:bJ} {N N' K:Nat} {D T:List zC} (h:c.S=D++T∧ ∀x∈D,x.d≤c.now+1) (ht: ∀x,T.head?=some x→ ¬x.d≤c.now+1)
  (hc:KE wr C hb hm v' ab { c with now:=c.now+1,S:=T} N' K∧N'≤N+3010*D.length) (hl:wr.ownsRow w.heap.size 22 1 sv D.length (zcc (D.map (·.w)))) (hk:Asm.Keeps (OfC C hb hm v ab) w wr∧ ∀b,v'.ownBlock=some b→v.ownBlock=some b∨w.heap.size≤b) (n:Nat):
  zjK w C hb hm v ab c N K (.returned sv) (wr.drewN n):=by
 obtain ⟨e1,e2⟩:=zry h ht;refine ⟨sv,rfl,?_,N',?_,v',?_,hk.1.drewN n,hk.2⟩
 ·rw[e1,List.length_map];exact hl
 ·rw[e1,List.length_map];exact hc.2
 ·rw[e2];exact hc.1.zk fun _ _=>rfl
theorem zoN {w wr w2 w3:World} {C hb hm:Nat} {v' v2 sv:Value} {ab:Nat} {c:bJ} {N' N2 K n:Nat} {xs:List Value} {s:zC} {T:List zC} {x:Int}
  (hC:KE wr C hb hm v' ab { c with now:=x,S:=s::T} N' K) (hL:wr.ownsRow w.heap.size 22 1 sv n xs)
  (hh:vS w2 hb hm v2 0 T c.last N2) (hv:v2.ownBlock=v'.ownBlock) (hk:Hp.Keeps (Of hb hm v') wr.drew w2) (hM:Zl arms w3 ab (zm1 (byF (s::T)) s.w) K) (hT:w2.mapTurned w3 ab):
  KE w3 C hb hm v2 ab { c with now:=x,S:=T} N2 K∧w3.ownsRow w.heap.size 22 1 sv n xs∧Asm.Keeps (OfC C hb hm v' ab) wr w3:=by
 obtain ⟨o1,o2,o3⟩:=hC.out;have hg:=hT.grown;have xC:=zo hC.obj;have hs2:wr.heap.size≤w2.heap.size:=hk.size;have dB:=hC.nod;simp only[List.map_cons,List.nodup_cons] at dB;refine ⟨⟨?_,?_,?_,hC.apart,dB.2,fun t ht=>hC.rng t (List.mem_cons_of_mem _ ht),hC.now,Nat.le_trans (Nat.le_succ _) hC.few⟩,?_,?_⟩
 ·exact (hg.block C Y1 (fun e=>o3 Y18)).trans ((hk.block C xC o1).trans hC.obj)
 ·refine hh.zk fun k hk'=>hg.block k (hh.of_lt hk') (fun e=>?_);injection e with e
  subst e;rcases zpY (n:=k+1) (fun j hj=>Or.inl (by rw[←hv];exact hj)) hk' with h1|h1
  ·exact o2 h1
  ·omega
 ·refine hM.same fun k hk'=>?_;unfold byF zm1;simp only[List.find?_cons];by_cases e:k=s.w
  ·subst e;have:T.find? (fun t=>t.w==s.w)=none:=by
    rw[List.find?_eq_none];intro y hy e2;exact dB.1 (by rw[←eq_of_beq e2];exact List.mem_map_of_mem (f:=(·.w)) hy)
   simp[this]
  ·have e2:(s.w==k)=false:=by simp;exact Ne.symm e
   simp[e,e2]
 ·refine Asm.za hL fun k hk'=>?_;have hno:=Bc hC hL hk';obtain ⟨cur,hc⟩:=Asm.Zz hL hk';have hkl:=zo hc;exact (hg.block k Y1 (fun e=>hno (Or.inr (Or.inl Y18)))).trans (hk.block k hkl fun e=>hno (Or.inr (Or.inr e)))
 ·have k2:Asm.Keeps (OfC C hb hm v' ab) wr w2:=⟨hk.os,hk.tape,hk.output,hk.size,fun k hk' hx=>hk.block k hk' fun e=>hx (Or.inr (Or.inr e))⟩;exact k2.grown hg fun k e=>Or.inr (Or.inl Y67)
theorem znr {w w3 w4:World} {C hb hm:Nat} {v2 sv v4:Value} {ab:Nat} {c:bJ} {N2 K:Nat} {o:Obj} {D:List zC} {s:zC}
  (hC:KE w3 C hb hm v2 ab c N2 K) (hL:w3.ownsRow w.heap.size 22 1 sv D.length (zcc (D.map (·.w))))
  (hg:(w3.alloc o).grownBy w4 sv.ownBlock) (hown:w4.ownsRow w.heap.size 22 1 v4 (D.length+1) (zcc (D.map (·.w))++ [E J s.w])):
  KE w4 C hb hm v2 ab c N2 K∧w4.ownsRow w.heap.size 22 1 v4 (D++ [s]).length (zcc ((D++ [s]).map (·.w)))∧Asm.Keeps (fun k=>w.heap.size≤k) w3 w4:=by
 refine ⟨hC.zk fun b hb'=>?_,?_,?_⟩
 ·have hlt:=hC.lt hb';exact (hg.block b Y8 fun e=>Bc hC hL e.symm hb').trans (Below.heap_alloc _ _ _ hlt)
 ·rw[List.length_append,List.map_append];unfold zcc at*;rw[List.map_append];exact hown
 ·refine ((Asm.Keeps.refl _ w3).alloc o).grown hg fun k hk=>?_;obtain ⟨_,⟨rfl,_⟩ |⟨g,_,_,rfl,h2,_⟩⟩:=hL
  ·cases hk
  ·cases hk;exact h2
theorem znQ {w:World} {C hb hm:Nat} {v:Value} {ab:Nat} {c:bJ} {N K:Nat} (h:KE w C hb hm v ab c N K) (hN:N≤600000000) (yG:c.now+1≤1000000000):
  Calls Tp 110 #[Y (V ⟨C,0,O⟩)] w (zjK w C hb hm v ab c N K):=by
 obtain ⟨k0,k1,k2,kf⟩:=h.cells;have hn0:=h.now.1;have hn1:=h.now.2;have xC:=zo h.obj;have H:=Y0 h;have h1:KE (w.setCell ⟨C,0,O⟩ (E J (c.now+1))) C hb hm v ab { c with now:=c.now+1} N K:=by
  obtain ⟨o1,o2,o3⟩:=h.out;refine ⟨?_,h.heap.zk fun k hk=>zm (fun e=>o1 (by have e':k=C:=e;rw[←e'];exact hk)),h.by'.of_block (zm (Ne.symm o3)),h.apart,h.nod,h.rng,⟨by show 0≤c.now+1;omega,yG⟩,h.few⟩;rw[zy h.obj];simp
 have hk1:Asm.Keeps (OfC C hb hm v ab) w (w.setCell ⟨C,0,O⟩ (E J (c.now+1))):=(Asm.Keeps.refl _ w).setCell (p:=⟨C,0,O⟩) (Or.inl rfl) _;have H1:=Y0 h1;have wL:=Y0 hk1;obtain ⟨iu,hiu,hzu,hsu,hbu⟩:=info_parts zsG;clear h h1 hk1;go_enter Tryz.func110,Tryz.ntmps110;go_wp2_with fail;go_loopg [3] c.S.length (fun g sv wr=> ∃(D T:List zC) (v':Value) (N':Nat),g=T.length∧Hid (c.S=D++T∧ ∀x∈D,x.d≤c.now+1)∧Hid (KE wr C hb hm v' ab { c with now:=c.now+1,S:=T} N' K∧N'≤N+3010*D.length)∧Hid (wr.ownsRow w.heap.size 22 1 sv D.length (zcc (D.map (·.w))))∧Hid (Asm.Keeps (OfC C hb hm v ab) w wr∧ ∀b,v'.ownBlock=some b→v.ownBlock=some b∨w.heap.size≤b));case atStart=>exact ⟨[],c.S,v,N,rfl,Y0 ⟨rfl,fun _ hx=>by cases hx⟩,Y0 ⟨H1.out,by omega⟩,Y0 (World.ownsRow_nil _ _ _ _),Y0 ⟨wL.out,fun _ hb=>Or.inl hb⟩⟩
 case round=>
  obtain ⟨D,T,v',N',hg,HD,HC,HL,HK⟩:=hrel
  have Hg:=Y0 hg
  have hcl:=HC.out.1
  obtain ⟨m0,m1,m2,mf⟩:=hcl.cells
  replace m0:wr.cell? ⟨C,0,O⟩=V (E J (c.now+1)):=m0
  cases T with
  |nil=>
   have HP:=Y0 (zsH (hcl.heap.zk (w':=wr.drew) fun _ _=>rfl) (c.now+1));clear hg hcl;go_wp2_with fail;go_region_with (go_at_call 170;refine HP.out.mono ?_;rintro e w2 ⟨rfl,rfl⟩);all_goals
    go_wp2_with fail
    go_ret
    exact zha HD.out (fun _ hx=>by cases hx) HC.out HL.out HK.out 1
  |cons s T=>
   have dA:=hcl.few;simp only[List.length_cons] at dA;by_cases hle:s.d≤c.now+1
   ·have OJ:=hcl.heap.zk (w':=wr.drew) fun _ _=>rfl;have HP:=Y0 (zrG OJ (c.now+1) Y1 (by
                                  have:=HC.out.2;have:D.length≤1000:=by have:=H.out.few;rw[HD.out.1] at this;simp at this;omega
                                  omega) hle)
    have fH:=Y0 hcl.out;have Er:=hcl.heap.fine.1 s List.mem_cons_self;have Qf:Hid (VU s.w):=Y0 Er.2.2;have Cr:=Y0 hcl.nod;have dF:Hid (C<wr.heap.size∧ab<wr.heap.size):=Y0 ⟨zo hcl.obj,hcl.by'.lt⟩;have PS:Hid (Zl arms wr.drew ab (byF (s::T)) K):=Y0 (hcl.by'.of_block rfl);have bL:=Y0 hcl.obj;have QD:=Y0 hcl.rng;have Ct:=Y0 hcl.now;have uY:=Y0 hcl.apart;have F5:=Y0 dA;have m1':wr.drew.cell? ⟨C,1,O⟩=V (Y (V ⟨hb,0,O⟩)):=m1;have Ua:wr.drew.cell? ⟨C,2,O⟩=V (.map (some ab)):=m2;have Hr:=Y0 hle;clear hg hcl dA OJ Er hle;go_wp2_with fail
    go_region_with (go_at_call 170;refine HP.out.mono ?_;rintro e w2 ⟨rfl,v2,O8,hv2,hk2⟩;obtain ⟨w3,hdl,rO,hturn⟩:=(PS.out.of_block (hk2.block ab dF.out.2 fH.out.2.1)).drop (S:=arms) Tryz.underlying210 Qf.out 0;have n2:w2.cell? ⟨C,2,O⟩=V (.map (some ab)):=(hk2.cell (p:=⟨C,2,O⟩) dF.out.1 fH.out.1).trans Ua;have AY:=Y0 O8;have dP:=Y0 hk2;have Od:=Y0 hv2;have fV:=Y0 rO;have HT:=Y0 hturn;clear O8 hk2 hv2 rO hturn);all_goals
     have mW:=Y0 (zoN HC.out.1 HL.out AY.out Od.out dP.out fV.out HT.out)
     have E3:Hid ((w3.alloc (Ce #[E J s.w] 22)).ownsRow w.heap.size 22 1 u3 D.length (zcc (D.map (·.w)))):=Y0 (Asm.za mW.out.2.1 fun k hk=>by
      obtain ⟨cur,hc⟩:=Asm.Zz mW.out.2.1 hk
      exact Below.heap_alloc _ _ _ (zo hc))
     have N3:=Y0 (cell_one_new w3 (E J s.w) 22)
     have O3:Hid (∀u∈ [Value.int J s.w],u.oneCell'=true):=Y0 fun u hu=>by simp at hu;subst hu;rfl
     have hDl:D.length≤1000:=by have:=H.out.few;rw[HD.out.1] at this;simp at this;omega
     have M1:Hid (D.length+1≤maxLen):=Y0 Y24
     have M2:Hid ((D.length+1)*8≤140737488355328):=Y0 Y1
     have M3:Hid (w.heap.size≤(w3.alloc (Ce #[E J s.w] 22)).heap.size):=Y0 (by
      have:=mW.out.2.2.size;have:=HK.out.1.size;simp;omega)
     go_wp2_with (at_builtin;refine wpList_append_own_at _ rfl _ _ 23 rfl w.heap.size 22 iu _ 1 8 Tryz.underlying23 hiu hzu hsu hbu rfl Y2 u3 D.length (zcc (D.map (·.w))) rfl E3.out ⟨w3.heap.size,0,O⟩ 1 1 [E J s.w] rfl rfl N3.out O3.out M1.out M2.out M3.out ?_;intro v4 w4 hown hgrow _ hnew;have dN:=Y0 hown;have qC:=Y0 hgrow;clear hown hgrow hnew)
     go_roundg T.length
     case measure=>have:=Hg.out;simp at this;omega
     case rel=>
      obtain ⟨q1,q2,q3⟩:=znr mW.out.1 mW.out.2.1 qC.out dN.out
      refine ⟨D++ [s],T,v2,N'+3*T.length+7,rfl,Y0 ⟨?_,?_⟩,Y0 ⟨q1,?_⟩,Y0 q2,Y0 ⟨?_,?_⟩⟩
      ·rw[HD.out.1,List.append_assoc];rfl
      ·intro x hx
       rcases List.mem_append.1 hx with hx|hx
       ·exact HD.out.2 x hx
       ·simp at hx;subst hx;exact Hr.out
      ·have:=HC.out.2
       have:=F5.out
       rw[List.length_append]
       simp only[List.length_cons,List.length_nil]
       omega
      ·refine (HK.out.1.trans mW.out.2.2 fun i hi=>?_).trans q3 fun i hi=>Or.inr hi
       rcases hi with e|e|e
       ·exact Or.inl (Or.inl e)
       ·exact Or.inl (Or.inr (Or.inl e))
       ·rcases zpY HK.out.2 e with e|e
        ·exact Or.inl (Or.inr (Or.inr e))
        ·exact Or.inr e
      ·intro b hb'
       exact HK.out.2 b (by rw[←Od.out];exact hb')
   ·have HP:=Y0 (zmK (hcl.heap.zk (w':=wr.drew) fun _ _=>rfl) (c.now+1) Y1 Y1);have Hr:=Y0 hle;clear hg hcl dA hle;go_wp2_with fail;go_region_with (go_at_call 170;refine HP.out.mono ?_;rintro e w2 ⟨rfl,rfl⟩);all_goals
     go_wp2_with fail
     go_ret
     exact zha HD.out (fun x hx=>by injection hx with hx;rw[←hx];have:=Hr.out;omega) HC.out HL.out HK.out 1
end Kn
namespace Kn
open Go.RowKit Asm
def gN (w:World) (X gc gw:Nat) (r:Option (Int×Mem)) (e:Ending) (w':World):Prop:=match r with
 |none=>(∃ev,e=Rt (.tuple #[E J 0,ev])∧Som ev)∧Below w.heap.size w w'
 |some (was,m')=>e=Rt (.tuple #[E J was, .nilIface])∧Zn w' X gc gw m'∧Keeps (fun b=>b=X∨b=gc) w w'
theorem Zn.counted {w:World} {X gc gw:Nat} {m:Mem} (h:Zn w X gc gw m) (c:Int):Zn (w.setCell ⟨X,3,O⟩ (E Z c)) X gc gw m:=by
 obtain ⟨n1,n2,n3⟩:=h.ne;obtain ⟨t,c',ho⟩:=h.obj;exact ⟨h.ok,⟨t,c,zy ho _⟩,(zm (fun e=>n1 e.symm)).trans h.hs,(zm (fun e=>n2 e.symm)).trans h.ws⟩
theorem Zn.laid {w:World} {X gc gw:Nat} {m:Mem} (h:Zn w X gc gw m) (a v:Int) (hv:0≤v∧v<18446744073709551616):Zn (w.setCell ⟨gc,a.toNat,O⟩ (E J v)) X gc gw (m.lay a v):=by
 obtain ⟨n1,n2,n3⟩:=h.ne;obtain ⟨t,c',ho⟩:=h.obj;refine ⟨zvu h.ok a v hv,⟨t,c',?_⟩,?_,(zm (fun e=>n3 e.symm)).trans h.ws⟩
 ·rw[show (m.lay a v).hs.length=m.hs.length by simp[Mem.lay],show (m.lay a v).ws=m.ws from rfl];exact (zm n1).trans ho
 ·rw[zy h.hs,zbq];rfl
theorem zff {w:World} {X gc gw:Nat} {m:Mem} (h:Zn w X gc gw m) (kind a old v:Int) (ha:0≤a∧a<18446744073709551616) (h0:m.width a=0):
  Calls Tp 146 #[Y (V ⟨X,0,O⟩),E Z kind,E J a,E J old,E J v] w (gN w X gc gw none):=by
 have H1:=Y0 (zdr h a ha);rw[h0] at H1;have HF:=Y0 (fun n W=>zab n 2 W);clear h0 h;by_cases hb:a≤4611686018427387904
 ·exact J82
 ·have hb':4611686018427387904<a:=Y1;exact J82
theorem ze8 {w:World} {X gc gw:Nat} {m:Mem} (h:Zn w X gc gw m) (kind a old v:Int) (hk:kind=0∨kind=1∨kind=2∨kind=3∨kind=4) (ha:0≤a∧a<18446744073709551616) (ho:0≤old∧old<18446744073709551616) (hv:0≤v∧v<18446744073709551616) (h0:m.width a≠0):
  Calls Tp 146 #[Y (V ⟨X,0,O⟩),E Z kind,E J a,E J old,E J v] w (gN w X gc gw (m.acc kind a old v)):=by
 have H1:=Y0 (zdr h a ha);have hin:=zpR m h.ok h0;have DU:=za6 m h.ok a;obtain ⟨n1,n2,n3⟩:=h.ne;obtain ⟨l1,l2,l3⟩:=h.lt;obtain ⟨th,ct,fO⟩:=h.obj;obtain ⟨n,hn⟩: ∃n,n=m.hs.length:=⟨_,rfl⟩;have aR:=h.ok.most;obtain ⟨k,rfl⟩:=Int.eq_ofNat_of_zero_le ha.1;have hin':k<n:=by rw[hn];exact hin
 have dL:(k:Int)<(n:Int):=Y1;have dV:(n:Int)≤65536:=Y1;have W1:=h.counted (wrap64 (ct+1));have K1:Keeps (fun b=>b=X∨b=gc) w (w.setCell ⟨X,3,O⟩ (E Z (wrap64 (ct+1)))):=(Keeps.refl _ w).setCell (Or.inl rfl) _;have c0:w.cell? ⟨X,0,O⟩=V (Sl (V ⟨gc,0,O⟩) n n):=by rw[ze fO,hn];rfl
 have c3:w.cell? ⟨X,3,O⟩=V (E Z ct):=by rw[ze fO];rfl
 have f3:w.frozen? ⟨X,3,O⟩=false:=zF fO _;have g1:w.cell? ⟨gc,k,O⟩=V (E J (m.held k)):=by rw[ze h.hs];exact Bw hin
 have g2:w.frozen? ⟨gc,k,O⟩=false:=zF h.hs _;have HW:=Y0 W1;have HK:=Y0 K1;have hac:m.acc kind k old v=V (m.held k,if kind=0 then m else if kind=3 then m.lay k (zeG (m.width k) (m.held k) v) else if kind=4 then (if m.held k=KY (m.width k) old then m.lay k (KY (m.width k) v) else m) else m.lay k (KY (m.width k) v)):=by
  unfold Mem.acc;rw[if_neg h0]
 rw[hac];have HC:=Y0 (fun W=>Gd (m.width k) v W hv);have HO:=Y0 (fun W=>Gd (m.width k) old W ho);have HS:=Y0 (fun W=>zer (m.width k) (m.held k) v W DU hv);have rC:=GK (wd:=m.width k) hv;have rS:=@zhT (m.width k) (m.held k) v;have HL:=Y0 (fun x hx=>W1.laid (k:Int) x hx);rw[show ((k:Int)).toNat=k from Int.toNat_natCast k] at HL;generalize hgc:KY (m.width k) v=cv at*;generalize hgo:KY (m.width k) old=co at*;generalize hgs:zeG (m.width k) (m.held k) v=sv at*;generalize hgh:m.held k=was at*;generalize hgw:m.width k=wd at*;have QY:=Y0 rC;have og:=Y0 hn;have QZ:=Y0 rS;clear hac W1 K1 fO hn aR h ho hv ha hgc hgo hgs hgh hgw rC rS hin;rcases hk with rfl|rfl|rfl|rfl|rfl
 ·rw[if_pos rfl];go_enter Tryz.func146,Tryz.ntmps146;go_wp2_with fail;refine H1.out.mono ?_;rintro e w1 ⟨rfl,rfl⟩;go_wp2_with fail;go_ret2;exact ⟨rfl,HW.out,HK.out⟩
 ·rw[if_neg Y2,if_neg Y2,if_neg Y2];go_enter Tryz.func146,Tryz.ntmps146;go_wp2_with fail;refine H1.out.mono ?_;rintro e w1 ⟨rfl,rfl⟩;exact J8
 ·rw[if_neg Y2,if_neg Y2,if_neg Y2];go_enter Tryz.func146,Tryz.ntmps146;go_wp2_with fail;refine H1.out.mono ?_;rintro e w1 ⟨rfl,rfl⟩;exact J8
 ·rw[if_neg Y2,if_pos rfl];go_enter Tryz.func146,Tryz.ntmps146;go_wp2_with fail;refine H1.out.mono ?_;rintro e w1 ⟨rfl,rfl⟩;go_wp2_with fail;have q1:(w.setCell ⟨X,3,O⟩ (E Z (wrap64 (ct+1)))).cell? ⟨gc,k,O⟩=V (E J was):=(World.cell?_of_block (a:=⟨gc,k,O⟩) (zm (fun e=>n1 e.symm))).trans g1;have q2:(w.setCell ⟨X,3,O⟩ (E Z (wrap64 (ct+1)))).frozen? ⟨gc,k,O⟩=false:=(World.frozen?_of_block (a:=⟨gc,k,O⟩) (zm (fun e=>n1 e.symm))).trans g2;generalize (w.setCell ⟨X,3,O⟩ (E Z (wrap64 (ct+1))))=w1 at HW HK q1 q2 ⊢;have o8:Hid (Zn w1.drew X gc gw m):=Y0 (HW.out.zk fun _ _=>rfl);have dP:Hid (Keeps (fun b=>b=X∨b=gc) w w1.drew):=Y0 HK.out.drew;have q0:w1.drew.cell? ⟨X,0,O⟩=V (Sl (V ⟨gc,0,O⟩) n n):=by
   obtain ⟨_,_,ho⟩:=o8.out.obj;rw[ze ho,og.out];rfl
  replace q1:w1.drew.cell? ⟨gc,k,O⟩=V (E J was):=q1;replace q2:w1.drew.frozen? ⟨gc,k,O⟩=false:=q2;go_region_with (go_at_call 212;refine (HS.out _).mono ?_;rintro e w2 ⟨rfl,rfl⟩);all_goals
   go_wp2_with fail
   go_ret2
   exact ⟨rfl,by have:=o8.out.laid (k:Int) _ QZ.out;rwa[Int.toNat_natCast] at this,dP.out.setCell (p:=⟨gc,k,O⟩) (Or.inr rfl) _⟩
 ·rw[if_neg Y2,if_neg Y2,if_pos rfl];by_cases hwo:was=co
  ·subst hwo;rw[if_pos rfl];go_enter Tryz.func146,Tryz.ntmps146;go_wp2_with fail;refine H1.out.mono ?_;rintro e w1 ⟨rfl,rfl⟩;go_wp2_with fail;refine (HO.out _).mono ?_;rintro e w2 ⟨rfl,rfl⟩;exact J8
  ·rw[if_neg hwo];have TL:(was !=co)=true:=by simp[hwo]
   go_enter Tryz.func146,Tryz.ntmps146;go_wp2_with fail;refine H1.out.mono ?_;rintro e w1 ⟨rfl,rfl⟩;go_wp2_with fail;refine (HO.out _).mono ?_;rintro e w2 ⟨rfl,rfl⟩;go_wp2_with fail;go_ret2;exact ⟨rfl,HW.out,HK.out⟩
def Bq (m:Mem) (a n:Nat) (b:Bool):Bool:=decide (a+n≤m.ws.length)&& ((m.ws.drop a).take n).all fun x=>(x !=0)==b
theorem Bd (m:Mem) (a n:Nat) (b:Bool):Bq m a n b=true↔a+n≤m.ws.length∧ ∀j,j<n→((m.ws.getD (a+j) 0 !=0)==b)=true:=by
 unfold Bq;rw[Bool.and_eq_true,decide_eq_true_iff,List.all_eq_true];constructor
 ·rintro ⟨h1,h2⟩;refine ⟨h1,fun j hj=>h2 _ ?_⟩;rw[List.getD_eq_getElem?_getD,List.getElem?_eq_getElem Y1];rw[List.mem_iff_getElem];exact ⟨j,by simp;omega,by simp⟩
 ·rintro ⟨h1,h2⟩;refine ⟨h1,fun x hx=>?_⟩;rw[List.mem_iff_getElem] at hx;obtain ⟨j,hj,rfl⟩:=hx;have hj2:j<n:=by simp at hj;omega
  have:=h2 j hj2;rw[List.getD_eq_getElem?_getD,List.getElem?_eq_getElem Y1] at this;simpa using this
theorem zfd (m:Mem) (a n:Nat):m.free? a n=Bq m a n false:=by
 unfold Mem.free? Bq;congr 2;funext x;by_cases hx:x=0<;>simp[hx,bne]
theorem zsK (m:Mem) (a n:Nat):m.zix a n=Bq m a n true:=by
 unfold Mem.zix Bq;congr 2;funext x;by_cases hx:x=0<;>simp[hx]
def ztZ (w:World) (r:Bool) (e:Ending) (w':World):Prop:=match r with
 |true=>e=Rt .nilIface∧w=w'
 |false=>(∃v,e= .returned v∧Som v)∧Below w.heap.size w w'
theorem zeh {w:World} {X gc gw:Nat} {m:Mem} (h:Zn w X gc gw m) (a n:Nat) (b:Bool) (ha:a≤100000) (hn:n≤100000):
  Calls Tp 145 #[Y (V ⟨X,0,O⟩),E Z a,E Z n, .bool b] w (ztZ w (Bq m a n b)):=by
 obtain ⟨t,c,ho⟩:=h.obj;obtain ⟨z,hz⟩: ∃z,z=m.hs.length:=⟨_,rfl⟩;have hws:=h.ws;have hlen:=h.ok.len;have aR:=h.ok.most;have c0:w.cell? ⟨X,0,O⟩=V (Sl (V ⟨gc,0,O⟩) z z):=by rw[ze ho,hz];rfl
 have c1:w.cell? ⟨X,1,O⟩=V (Sl (V ⟨gw,0,O⟩) z z):=by rw[ze ho,hz,←hlen];rfl
 have HF:=Y0 (fun n k W=>zab n k W);have Ai:(a:Int)≤100000:=Y1;have dV:(n:Int)≤100000:=Y1;have nL:(z:Int)≤65536:=Y1;by_cases hfit:a+n≤z
 ·have l9:(a:Int)+(n:Int)≤(z:Int):=Y1;have HI:=Bd m a n b;rw[←hlen.trans hz.symm] at hfit;have yU:=Y0 hws;have fF:=Y0 hlen;have HZ:=Y0 hz;have eT:=Y0 hfit;have hr:=h.ok.w;have HR:=Y0 hr;have HI:=Y0 HI;clear hws hlen hz hfit aR hr h ho;go_enter Tryz.func145,Tryz.ntmps145;go_wp2_with fail;go_loopw [9] (fun iv wr=> ∃i:Nat,i≤n∧iv=E Z ((a+i:Nat):Int)∧Hid (∀j,j<i→((m.ws.getD (a+j) 0 !=0)==b)=true)∧wr=w) (fun iv _=>a+n - (intOf iv).toNat);case atStart=>exact ⟨0,by omega,rfl,Y0 (fun j hj=>absurd hj Y1),rfl⟩
  case round=>
   obtain ⟨i,hi,rfl,HA,rfl⟩:=hrel;have dH:(i:Int)≤(n:Int):=Y1;by_cases hlt:i<n
   ·have aH:((a+i:Nat):Int)<(a:Int)+(n:Int):=Y1;have hzi:((a+i:Nat):Int)<(z:Int):=Y1;have c2:wr.cell? ⟨gw,a+i,O⟩=V (.int .u8 (m.ws.getD (a+i) 0)):=by rw[ze yU.out];exact zbs (by have:=eT.out;omega)
    by_cases hx:m.ws.getD (a+i) 0=0
    ·have ht:(m.ws.getD (a+i) 0 !=0)=false:=by rw[hx];rfl
     rw[hx] at c2
     cases b with
     |false=>
      go_wp2_with fail;go_roundw;case rel=>exact ⟨i+1,by omega,by go_num,Y0 (fun j hj=>by
       rcases Nat.lt_succ_iff_lt_or_eq.1 hj with h1|h1
       ·exact HA.out j h1
       ·rw[h1,ht];rfl),trivial⟩
      case measure=>simp[intOf];omega
     |true=>
      have hno:Bq m a n true=false:=Bool.eq_false_iff.2 fun hh=>by
       have:=(HI.out.1 hh).2 i hlt;rw[ht] at this;cases this
      have j6:=Y0 hno;clear hno;exact J85
    ·have ht:(m.ws.getD (a+i) 0 !=0)=true:=bne_iff_ne.2 hx
     have HT:=Y0 ht
     generalize Po:m.ws.getD (a+i) 0=x at c2 hx ht HT
     have HX:=Y0 Po
     clear Po
     clear ht
     have hx2:(x !=0)=true:=HT.out
     cases b with
     |true=>
      go_wp2_with fail;go_roundw;case rel=>exact ⟨i+1,by omega,by go_num,Y0 (fun j hj=>by
       rcases Nat.lt_succ_iff_lt_or_eq.1 hj with h1|h1
       ·exact HA.out j h1
       ·rw[h1,HX.out,HT.out];rfl),trivial⟩
      case measure=>simp[intOf];omega
     |false=>
      have hno:Bq m a n false=false:=Bool.eq_false_iff.2 fun hh=>by
       have:=(HI.out.1 hh).2 i hlt;rw[HX.out,HT.out] at this;cases this
      have j6:=Y0 hno;clear hno;exact J85
   ·obtain rfl:i=n:=Y1;have hyes:Bq m a i b=true:=HI.out.2 ⟨eT.out,HA.out⟩;have rE:=Y0 hyes;clear hyes;go_wp2_with fail;go_ret;rw[rE.out];exact ⟨rfl,rfl⟩
 ·have l9:(z:Int) - (a:Int)<(n:Int):=Y1;have hno:Bq m a n b=false:=Bool.eq_false_iff.2 fun hh=>by have:=((Bd m a n b).1 hh).1;omega
  have j6:=Y0 hno;clear hno hws hlen hz hfit aR h ho;go_enter Tryz.func145,Tryz.ntmps145;exact J85
theorem Gr (l:List Int) (a n:Nat) (v:Int) (h:a+n≤l.length):(KP l a n v).length=l.length:=by simp[KP];omega
theorem zaZ (l:List Int) (a:Nat) (v:Int):KP l a 0 v=l:=by simp[KP]
theorem zbP (l:List Int) (a n:Nat) (v:Int) (h:a+n<l.length):(KP l a n v).set (a+n) v=KP l a (n+1) v:=by
 unfold KP;apply List.ext_getElem
 ·simp;omega
 ·intro i h1 h2;have hi:i<l.length:=by simp at h2;omega
  rw[List.getElem_set];by_cases c0:a+n=i
  ·rw[if_pos c0,List.getElem_append_left Y8,List.getElem_append_right Y8];simp
  ·rw[if_neg c0];by_cases c1:i<a
   ·rw[List.getElem_append_left Y8,List.getElem_append_left Y8,List.getElem_append_left Y8,List.getElem_append_left Y8]
   ·by_cases c2:i<a+n
    ·rw[List.getElem_append_left Y8,List.getElem_append_right Y8,List.getElem_append_left Y8,List.getElem_append_right Y8];simp
    ·rw[List.getElem_append_right Y8,List.getElem_append_right Y8];simp;congr 1;omega
theorem zcS {l:List Int} {a n:Nat} {v x:Int} (h:x∈KP l a n v):x∈l∨x=v:=by
 unfold KP at h;rcases List.mem_append.1 h with h|h
 ·rcases List.mem_append.1 h with h|h
  ·exact Or.inl (List.mem_of_mem_take h)
  ·exact Or.inr (List.mem_replicate.1 h).2
 ·exact Or.inl (List.mem_of_mem_drop h)
theorem map_ok {m:Mem} (h:bM m) {a n:Nat} {wd:Int} (hw:wd=0∨wd=32∨wd=64) (hf:a+n≤m.ws.length):bM (m.map a n wd):=by
 have hl:=h.len;have h1:(m.map a n wd).ws.length=m.ws.length:=Gr _ _ _ _ hf;have h2:(m.map a n wd).hs.length=m.hs.length:=Gr _ _ _ _ (by rw[←hl];exact hf);refine ⟨by rw[h1,h2,hl],by rw[h2];exact h.one,by rw[h2];exact h.most,fun x hx=>?_,fun x hx=>?_⟩
 ·rcases zcS hx with h3|h3
  ·exact h.w x h3
  ·rw[h3];exact hw
 ·rcases zcS hx with h3|h3
  ·exact h.h x h3
  ·rw[h3];exact ⟨by decide,by decide⟩
theorem zrc (l:List Int) (i:Nat) (v:Int):(u8A l).setIfInBounds i (.int .u8 v)=u8A (l.set i v):=by
 apply Array.ext';simp[u8A,List.map_set]
theorem jS (m:Mem) (hl:m.ws.length=m.hs.length) (a i:Nat) (wd:Int) (h:a+i<m.ws.length):(⟨(m.map a i wd).ws.set (a+i) wd,(m.map a i wd).hs.set (a+i) 0⟩:Mem)=m.map a (i+1) wd:=by
 unfold Mem.map;rw[zbP _ _ _ _ h,zbP _ _ _ _ (by rw[←hl];exact h)]
theorem zpJ (m:Mem) (a:Nat) (wd:Int):m.map a 0 wd=m:=by unfold Mem.map;rw[zaZ,zaZ]
theorem Zn.mapped {w:World} {X gc gw:Nat} {m:Mem} {a i:Nat} {wd:Int} (h:Zn w X gc gw (m.map a i wd)) (hl:m.ws.length=m.hs.length) (hw:wd=0∨wd=32∨wd=64) (hi:a+i<m.ws.length) (hm:bM m):
  Zn ((w.setCell ⟨gw,a+i,O⟩ (.int .u8 wd)).setCell ⟨gc,a+i,O⟩ (E J 0)) X gc gw (m.map a (i+1) wd):=by
 obtain ⟨n1,n2,n3⟩:=h.ne;obtain ⟨t,c',ho⟩:=h.obj;have l1:(m.map a (i+1) wd).ws.length=(m.map a i wd).ws.length:=by rw[←jS m hl a i wd hi];simp
 have l2:(m.map a (i+1) wd).hs.length=(m.map a i wd).hs.length:=by rw[←jS m hl a i wd hi];simp
 refine ⟨map_ok hm hw Y1,⟨t,c',?_⟩,?_,?_⟩
 ·rw[l1,l2];exact (zm n1).trans ((zm n2).trans ho)
 ·rw[zy ((zm n3).trans h.hs),zbq,←jS m hl a i wd hi]
 ·rw[zm (fun e=>n3 e.symm),zy h.ws,zrc,←jS m hl a i wd hi]
theorem Zn.there {w:World} {X gc gw:Nat} {m:Mem} (h:Zn w X gc gw m) (c:Int):Zn (w.setCell ⟨X,2,O⟩ (E Z c)) X gc gw m:=by
 obtain ⟨n1,n2,n3⟩:=h.ne;obtain ⟨t,c',ho⟩:=h.obj;exact ⟨h.ok,⟨c,c',zy ho _⟩,(zm (fun e=>n1 e.symm)).trans h.hs,(zm (fun e=>n2 e.symm)).trans h.ws⟩
def zes (w:World) (X gc gw:Nat) (r:Option Mem) (e:Ending) (w':World):Prop:=match r with
 |some m'=>e=Rt .nilIface∧Zn w' X gc gw m'∧Keeps (fun b=>b=X∨b=gc∨b=gw) w w'
 |none=>(∃v,e= .returned v∧Som v)∧Below w.heap.size w w'
theorem zv9 {w:World} {X gc gw:Nat} {m:Mem} (h:Zn w X gc gw m) (a n:Nat) (hn1:1≤n) (ha:a≤100000) (hn:n≤100000):
  Calls Tp 96 #[Y (V ⟨X,0,O⟩),E Z a,E Z n,E Z 32] w (zes w X gc gw (if m.free? a n then some (m.map a n 32) else none)):=by
 have aK:=Y0 (zeh h a n false ha hn)
 have hr:m.free? a n=Bq m a n false:=zfd m a n
 rw[hr]
 have HT:=Y0 ((Bd m a n false).1)
 have HH:=Y0 h
 have q9:=Y0 h.ok
 have hlen:=h.ok.len
 have aR:=h.ok.most
 have fF:=Y0 hlen
 have Ef:1≤(n:Int):=Y1
 have Ai:(a:Int)≤100000:=Y1
 have dV:(n:Int)≤100000:=Y1
 cases hb:Bq m a n false with
 |false=>
  rw[hb] at aK
  rw[if_neg Y2]
  clear hr HT hb hlen aR h
  go_enter Tryz.func96,Tryz.ntmps96
  go_wp2_with fail
  refine aK.out.mono ?_
  rintro e w1 ⟨⟨v,rfl,t,x,rfl⟩,hb1⟩
  go_wp2_with fail
  go_ret
  exact ⟨⟨_,rfl,t,x,rfl⟩,hb1⟩
 |true=>
  rw[hb] at aK
  rw[if_pos rfl]
  have hfit:=(HT.out hb).1
  have eT:=Y0 hfit
  obtain ⟨z,hz⟩: ∃z,z=m.hs.length:=⟨_,rfl⟩
  have l9:(a:Int)+(n:Int)≤(z:Int):=Y1
  have nL:(z:Int)≤65536:=Y1
  have HZ:=Y0 hz
  have yT:=Y0 (Or.inl rfl:(32:Int)=32∨(32:Int)=64)
  clear hr HT hb hlen aR h hfit hz
  go_enter Tryz.func96,Tryz.ntmps96
  go_wp2_with fail
  refine aK.out.mono ?_
  rintro e w1 ⟨rfl,rfl⟩
  go_wp2_with fail
  go_loopw [10] (fun iv wr=> ∃i:Nat,i≤n∧iv=E Z ((a+i:Nat):Int)∧Hid (Zn wr X gc gw (m.map a i 32))∧Hid (Keeps (fun b=>b=X∨b=gc∨b=gw) w wr)) (fun iv _=>a+n - (intOf iv).toNat)
  case atStart=>exact ⟨0,by omega,rfl,Y0 Y87,Y0 (Keeps.refl _ _)⟩
  case round=>
   obtain ⟨i,hi,rfl,HM,HK⟩:=hrel
   have dH:(i:Int)≤(n:Int):=Y1
   obtain ⟨n1,n2,n3⟩:=HM.out.ne
   obtain ⟨l1,l2,l3⟩:=HM.out.lt
   obtain ⟨t,c,ho⟩:=HM.out.obj
   have e1:(m.map a i 32).ws.length=z:=by rw[HZ.out,←fF.out];exact Gr _ _ _ _ (by have:=eT.out;omega)
   have e2:(m.map a i 32).hs.length=z:=by rw[←HM.out.ok.len];exact e1
   rw[e1,e2] at ho
   have c0:wr.cell? ⟨X,0,O⟩=V (Sl (V ⟨gc,0,O⟩) z z):=Y54
   have c1:wr.cell? ⟨X,1,O⟩=V (Sl (V ⟨gw,0,O⟩) z z):=Y54
   have c2:wr.cell? ⟨X,2,O⟩=V (E Z t):=Y54
   have f2:wr.frozen? ⟨X,2,O⟩=false:=zF ho _
   by_cases hlt:i<n
   ·have aH:((a+i:Nat):Int)<(a:Int)+(n:Int):=Y1
    have hzi:((a+i:Nat):Int)<(z:Int):=Y1
    have hzn:a+i<z:=Y1
    have g1: ∃u,wr.cell? ⟨gw,a+i,O⟩=some u:=⟨_,by rw[ze HM.out.ws];exact zbs (by rw[e1];exact hzn)⟩
    have g2: ∃u,wr.cell? ⟨gc,a+i,O⟩=some u:=⟨_,by rw[ze HM.out.hs];exact Bw (by rw[e2];exact hzn)⟩
    obtain ⟨u1,g1⟩:=g1
    obtain ⟨u2,g2⟩:=g2
    have f3:wr.frozen? ⟨gw,a+i,O⟩=false:=zF HM.out.ws _
    have f4:wr.frozen? ⟨gc,a+i,O⟩=false:=zF HM.out.hs _
    have HN:=Y0 (HM.out.mapped fF.out Y28 (by have:=eT.out;omega) q9.out)
    have dP:=Y0 ((HK.out.setCell (p:=⟨gw,a+i,O⟩) (Or.inr (Or.inr rfl)) (.int .u8 32)).setCell (p:=⟨gc,a+i,O⟩) (Or.inr (Or.inl rfl)) (E J 0))
    clear ho e1 e2 f2
    go_wp2_with fail
    go_roundw
    case rel=>exact ⟨i+1,by omega,by go_num,HN,dP⟩
    case measure=>simp[intOf];omega
   ·obtain rfl:i=n:=Y1
    have HN:=Y0 (HM.out.there (wrap64 (t+(i:Int))))
    have dP:=Y0 (HK.out.setCell (p:=⟨X,2,O⟩) (Or.inl rfl) (E Z (wrap64 (t+(i:Int)))))
    clear ho e1 e2
    go_wp2_with fail
    go_ret
    exact ⟨rfl,HN.out,dP.out⟩
theorem zw7 {w:World} {X gc gw:Nat} {m:Mem} (h:Zn w X gc gw m) (a n:Nat) (hn1:1≤n) (ha:a≤100000) (hn:n≤100000):
  Calls Tp 96 #[Y (V ⟨X,0,O⟩),E Z a,E Z n,E Z 64] w (zes w X gc gw (if m.free? a n then some (m.map a n 64) else none)):=by
 have aK:=Y0 (zeh h a n false ha hn)
 have hr:m.free? a n=Bq m a n false:=zfd m a n
 rw[hr]
 have HT:=Y0 ((Bd m a n false).1)
 have HH:=Y0 h
 have q9:=Y0 h.ok
 have hlen:=h.ok.len
 have aR:=h.ok.most
 have fF:=Y0 hlen
 have Ef:1≤(n:Int):=Y1
 have Ai:(a:Int)≤100000:=Y1
 have dV:(n:Int)≤100000:=Y1
 cases hb:Bq m a n false with
 |false=>
  rw[hb] at aK
  rw[if_neg Y2]
  clear hr HT hb hlen aR h
  go_enter Tryz.func96,Tryz.ntmps96
  go_wp2_with fail
  refine aK.out.mono ?_
  rintro e w1 ⟨⟨v,rfl,t,x,rfl⟩,hb1⟩
  go_wp2_with fail
  go_ret
  exact ⟨⟨_,rfl,t,x,rfl⟩,hb1⟩
 |true=>
  rw[hb] at aK
  rw[if_pos rfl]
  have hfit:=(HT.out hb).1
  have eT:=Y0 hfit
  obtain ⟨z,hz⟩: ∃z,z=m.hs.length:=⟨_,rfl⟩
  have l9:(a:Int)+(n:Int)≤(z:Int):=Y1
  have nL:(z:Int)≤65536:=Y1
  have HZ:=Y0 hz
  have yT:=Y0 (Or.inr rfl:(64:Int)=32∨(64:Int)=64)
  clear hr HT hb hlen aR h hfit hz
  go_enter Tryz.func96,Tryz.ntmps96
  go_wp2_with fail
  refine aK.out.mono ?_
  rintro e w1 ⟨rfl,rfl⟩
  go_wp2_with fail
  go_loopw [10] (fun iv wr=> ∃i:Nat,i≤n∧iv=E Z ((a+i:Nat):Int)∧Hid (Zn wr X gc gw (m.map a i 64))∧Hid (Keeps (fun b=>b=X∨b=gc∨b=gw) w wr)) (fun iv _=>a+n - (intOf iv).toNat)
  case atStart=>exact ⟨0,by omega,rfl,Y0 Y87,Y0 (Keeps.refl _ _)⟩
  case round=>
   obtain ⟨i,hi,rfl,HM,HK⟩:=hrel
   have dH:(i:Int)≤(n:Int):=Y1
   obtain ⟨n1,n2,n3⟩:=HM.out.ne
   obtain ⟨l1,l2,l3⟩:=HM.out.lt
   obtain ⟨t,c,ho⟩:=HM.out.obj
   have e1:(m.map a i 64).ws.length=z:=by rw[HZ.out,←fF.out];exact Gr _ _ _ _ (by have:=eT.out;omega)
   have e2:(m.map a i 64).hs.length=z:=by rw[←HM.out.ok.len];exact e1
   rw[e1,e2] at ho
   have c0:wr.cell? ⟨X,0,O⟩=V (Sl (V ⟨gc,0,O⟩) z z):=Y54
   have c1:wr.cell? ⟨X,1,O⟩=V (Sl (V ⟨gw,0,O⟩) z z):=Y54
   have c2:wr.cell? ⟨X,2,O⟩=V (E Z t):=Y54
   have f2:wr.frozen? ⟨X,2,O⟩=false:=zF ho _
   by_cases hlt:i<n
   ·have aH:((a+i:Nat):Int)<(a:Int)+(n:Int):=Y1
    have hzi:((a+i:Nat):Int)<(z:Int):=Y1
    have hzn:a+i<z:=Y1
    have g1: ∃u,wr.cell? ⟨gw,a+i,O⟩=some u:=⟨_,by rw[ze HM.out.ws];exact zbs (by rw[e1];exact hzn)⟩
    have g2: ∃u,wr.cell? ⟨gc,a+i,O⟩=some u:=⟨_,by rw[ze HM.out.hs];exact Bw (by rw[e2];exact hzn)⟩
    obtain ⟨u1,g1⟩:=g1
    obtain ⟨u2,g2⟩:=g2
    have f3:wr.frozen? ⟨gw,a+i,O⟩=false:=zF HM.out.ws _
    have f4:wr.frozen? ⟨gc,a+i,O⟩=false:=zF HM.out.hs _
    have HN:=Y0 (HM.out.mapped fF.out Y28 (by have:=eT.out;omega) q9.out)
    have dP:=Y0 ((HK.out.setCell (p:=⟨gw,a+i,O⟩) (Or.inr (Or.inr rfl)) (.int .u8 64)).setCell (p:=⟨gc,a+i,O⟩) (Or.inr (Or.inl rfl)) (E J 0))
    clear ho e1 e2 f2
    go_wp2_with fail
    go_roundw
    case rel=>exact ⟨i+1,by omega,by go_num,HN,dP⟩
    case measure=>simp[intOf];omega
   ·obtain rfl:i=n:=Y1
    have HN:=Y0 (HM.out.there (wrap64 (t+(i:Int))))
    have dP:=Y0 (HK.out.setCell (p:=⟨X,2,O⟩) (Or.inl rfl) (E Z (wrap64 (t+(i:Int)))))
    clear ho e1 e2
    go_wp2_with fail
    go_ret
    exact ⟨rfl,HN.out,dP.out⟩
theorem zjT {w:World} {X gc gw:Nat} {m:Mem} (h:Zn w X gc gw m) (a n:Nat) (wd:Int) (hwd:wd=32∨wd=64) (hn1:1≤n) (ha:a≤100000) (hn:n≤100000):
  Calls Tp 96 #[Y (V ⟨X,0,O⟩),E Z a,E Z n,E Z wd] w (zes w X gc gw (if m.free? a n then some (m.map a n wd) else none)):=by
 rcases hwd with rfl|rfl
 ·exact zv9 h a n hn1 ha hn
 ·exact zw7 h a n hn1 ha hn
theorem zlO {w:World} {X gc gw:Nat} {m:Mem} (h:Zn w X gc gw m) (a n:Nat) (hn1:1≤n) (ha:a≤100000) (hn:n≤100000):
  Calls Tp 150 #[Y (V ⟨X,0,O⟩),E Z a,E Z n] w (zes w X gc gw (if m.zix a n then some (m.map a n 0) else none)):=by
 have aK:=Y0 (zeh h a n true ha hn)
 have hr:m.zix a n=Bq m a n true:=zsK m a n
 rw[hr]
 have HT:=Y0 ((Bd m a n true).1)
 have HH:=Y0 h
 have q9:=Y0 h.ok
 have hlen:=h.ok.len
 have aR:=h.ok.most
 have fF:=Y0 hlen
 have Ef:1≤(n:Int):=Y1
 have Ai:(a:Int)≤100000:=Y1
 have dV:(n:Int)≤100000:=Y1
 cases hb:Bq m a n true with
 |false=>
  rw[hb] at aK
  rw[if_neg Y2]
  clear hr HT hb hlen aR h
  go_enter Tryz.func150,Tryz.ntmps150
  go_wp2_with fail
  refine aK.out.mono ?_
  rintro e w1 ⟨⟨v,rfl,t,x,rfl⟩,hb1⟩
  go_wp2_with fail
  go_ret
  exact ⟨⟨_,rfl,t,x,rfl⟩,hb1⟩
 |true=>
  rw[hb] at aK
  rw[if_pos rfl]
  have hfit:=(HT.out hb).1
  have eT:=Y0 hfit
  obtain ⟨z,hz⟩: ∃z,z=m.hs.length:=⟨_,rfl⟩
  have l9:(a:Int)+(n:Int)≤(z:Int):=Y1
  have nL:(z:Int)≤65536:=Y1
  have HZ:=Y0 hz
  have yT:=Y0 (rfl:(0:Int)=0)
  clear hr HT hb hlen aR h hfit hz
  go_enter Tryz.func150,Tryz.ntmps150
  go_wp2_with fail
  refine aK.out.mono ?_
  rintro e w1 ⟨rfl,rfl⟩
  go_wp2_with fail
  go_loopw [8] (fun iv wr=> ∃i:Nat,i≤n∧iv=E Z ((a+i:Nat):Int)∧Hid (Zn wr X gc gw (m.map a i 0))∧Hid (Keeps (fun b=>b=X∨b=gc∨b=gw) w wr)) (fun iv _=>a+n - (intOf iv).toNat)
  case atStart=>exact ⟨0,by omega,rfl,Y0 Y87,Y0 (Keeps.refl _ _)⟩
  case round=>
   obtain ⟨i,hi,rfl,HM,HK⟩:=hrel
   have dH:(i:Int)≤(n:Int):=Y1
   obtain ⟨n1,n2,n3⟩:=HM.out.ne
   obtain ⟨l1,l2,l3⟩:=HM.out.lt
   obtain ⟨t,c,ho⟩:=HM.out.obj
   have e1:(m.map a i 0).ws.length=z:=by rw[HZ.out,←fF.out];exact Gr _ _ _ _ (by have:=eT.out;omega)
   have e2:(m.map a i 0).hs.length=z:=by rw[←HM.out.ok.len];exact e1
   rw[e1,e2] at ho
   have c0:wr.cell? ⟨X,0,O⟩=V (Sl (V ⟨gc,0,O⟩) z z):=Y54
   have c1:wr.cell? ⟨X,1,O⟩=V (Sl (V ⟨gw,0,O⟩) z z):=Y54
   have c2:wr.cell? ⟨X,2,O⟩=V (E Z t):=Y54
   have f2:wr.frozen? ⟨X,2,O⟩=false:=zF ho _
   by_cases hlt:i<n
   ·have aH:((a+i:Nat):Int)<(a:Int)+(n:Int):=Y1
    have hzi:((a+i:Nat):Int)<(z:Int):=Y1
    have hzn:a+i<z:=Y1
    have g1: ∃u,wr.cell? ⟨gw,a+i,O⟩=some u:=⟨_,by rw[ze HM.out.ws];exact zbs (by rw[e1];exact hzn)⟩
    have g2: ∃u,wr.cell? ⟨gc,a+i,O⟩=some u:=⟨_,by rw[ze HM.out.hs];exact Bw (by rw[e2];exact hzn)⟩
    obtain ⟨u1,g1⟩:=g1
    obtain ⟨u2,g2⟩:=g2
    have f3:wr.frozen? ⟨gw,a+i,O⟩=false:=zF HM.out.ws _
    have f4:wr.frozen? ⟨gc,a+i,O⟩=false:=zF HM.out.hs _
    have HN:=Y0 (HM.out.mapped fF.out Y28 (by have:=eT.out;omega) q9.out)
    have dP:=Y0 ((HK.out.setCell (p:=⟨gw,a+i,O⟩) (Or.inr (Or.inr rfl)) (.int .u8 0)).setCell (p:=⟨gc,a+i,O⟩) (Or.inr (Or.inl rfl)) (E J 0))
    clear ho e1 e2 f2
    go_wp2_with fail
    go_roundw
    case rel=>exact ⟨i+1,by omega,by go_num,HN,dP⟩
    case measure=>simp[intOf];omega
   ·obtain rfl:i=n:=Y1
    have HN:=Y0 (HM.out.there (wrap64 (t - (i:Int))))
    have dP:=Y0 (HK.out.setCell (p:=⟨X,2,O⟩) (Or.inl rfl) (E Z (wrap64 (t - (i:Int)))))
    clear ho e1 e2
    go_wp2_with fail
    go_ret
    exact ⟨rfl,HN.out,dP.out⟩
theorem Vw {w:World} {base:Nat} {e:TypeId} {size n:Nat} {v:Value} {xs:List Value} (h:w.ownsRow base e size v n xs) (h0:0<n):
  ∃g c,v=Sl (V ⟨g,0,O⟩) n c∧base≤g∧g<w.heap.size∧n≤c∧(∀k,k<n*size→w.cell? ⟨g,k,O⟩=xs[k]?)∧ ∀o,w.frozen? ⟨g,o,O⟩=false:=by
 exact zx0
theorem below_drewN (w:World) (q:Nat):Below w.heap.size w (w.drewN q):=⟨rfl,rfl,rfl,Nat.le_refl _,fun _ _=>rfl⟩
def jJ (b:GI):List Value:= [E Z b.pos,E Z b.n,E Z b.w]
def ZP (l:List GI):List Value:=l.flatMap jJ
theorem zd9 {l:List GI} {i:Nat} (h:i<l.length):(ZP l)[i*3]?=V (E Z (KI l i).pos)∧(ZP l)[i*3+1]?=V (E Z (KI l i).n)∧(ZP l)[i*3+2]?=V (E Z (KI l i).w):=by
 have e:KI l i=l[i]:=by unfold KI;rw[List.getD_eq_getElem?_getD,List.getElem?_eq_getElem h];rfl
 rw[e];exact ⟨gu (k:=3) (f:=jJ) (fun _=>rfl) l i h 0 Y1,gu (k:=3) (f:=jJ) (fun _=>rfl) l i h 1 Y1,gu (k:=3) (f:=jJ) (fun _=>rfl) l i h 2 Y1⟩
theorem Gs (l:List GI):(ZP l).length=l.length*3:=BA (f:=jJ) (fun _=>rfl) l
structure VR (w:World) (A X:Nat) (v:Value) (a:Alc):Prop where
 ok:okB a.hi a.lo a.l
 most:a.hi≤65536
 obj:w.heap[A]?=V (.cells #[Y (V ⟨X,0,O⟩),E Z a.lo,E Z a.hi,v] 303 (0,0))
 row:w.ownsRow 0 306 3 v a.l.length (ZP a.l)
def OfA (A:Nat) (v:Value) (k:Nat):Prop:=k=A∨v.ownBlock=some k
section
variable {w w':World} {A X:Nat} {v:Value} {a:Alc}
theorem VR.lt (h:VR w A X v a):A<w.heap.size:=zo h.obj
theorem VR.of_lt (h:VR w A X v a) {k:Nat} (hk:OfA A v k):k<w.heap.size:=by
 rcases hk with rfl|hk
 ·exact h.lt
 ·exact (h.row.lt k hk).2
theorem VR.zk (h:VR w A X v a) (e: ∀k,OfA A v k→w'.heap[k]?=w.heap[k]?):VR w' A X v a:=
 ⟨h.ok,h.most,(e A (Or.inl rfl)).trans h.obj,za h.row fun k hk=>e k (Or.inr hk)⟩
theorem VR.len (h:VR w A X v a):a.l.length≤65536:=by have:=zaK h.ok;have:=h.most;omega
end
theorem BQ (n:Int) (t:TypeId) (x:Value) (w:World):Calls Tp 147 #[E Z n, .iface t x] w fun e w'=>(∃v,e= .returned v∧Som v)∧Below w.heap.size w w':=by
 go_enter Tryz.func147,Tryz.ntmps147;exact J75
theorem zsW {w:World} {A X:Nat} {v:Value} {a:Alc} (h:VR w A X v a) (i:Nat) (hi:i≤a.l.length):
  Calls Tp 148 #[Y (V ⟨A,0,O⟩),E Z i] w fun e w'=>e=Rt (E Z (gD a.lo a.l i))∧ ∃q,w'=w.drewN q:=by
 have ho:=h.obj
 cases i with
 |zero=>
  have c1:w.cell? ⟨A,1,O⟩=V (E Z a.lo):=Y54
  have e0:gD a.lo a.l 0=a.lo:=rfl
  rw[e0]
  clear h ho hi e0
  go_enter Tryz.func148,Tryz.ntmps148
  go_wp2
  go_ret
  exact ⟨rfl,0,rfl⟩
 |succ j=>
  obtain ⟨g,cp,rfl,_,_,hcap,p1,_⟩:=Vw h.row Y1
  obtain ⟨n,hn⟩: ∃n,n=a.l.length:=⟨_,rfl⟩
  have c3:w.cell? ⟨A,3,O⟩=V (Sl (V ⟨g,0,O⟩) n cp):=by rw[ze ho,hn];rfl
  obtain ⟨b0,b1,_⟩:=zd9 (l:=a.l) (i:=j) Y1
  have x0:w.cell? ⟨g,j*3,O⟩=V (E Z (KI a.l j).pos):=(p1 _ Y1).trans b0
  have x1:w.cell? ⟨g,j*3+1,O⟩=V (E Z (KI a.l j).n):=(p1 _ Y1).trans b1
  have hb:=zhS h.ok _ (zke (l:=a.l) (i:=j) Y1)
  have hm:=h.most
  have hle:=h.len
  have e0:gD a.lo a.l (j+1)=(KI a.l j).pos+(KI a.l j).n:=rfl
  rw[e0]
  have hjn:(j:Int)<(n:Int):=Y1
  have dV:(n:Int)≤65536:=Y1
  have hp:((KI a.l j).pos:Int)≤65536:=Y1
  have hq:((KI a.l j).n:Int)≤65536:=Y1
  generalize (KI a.l j).pos=p at*
  generalize (KI a.l j).n=q at*
  have hs1:IntKind.i64.wrap (j:Int)=(j:Int):=IntWalk.i64_in _ Y1
  have hs2:IntKind.i64.wrap ((p:Int)+(q:Int))=(p:Int)+(q:Int):=IntWalk.i64_in _ Y1
  clear h ho hi e0 b0 b1 p1 hb hm hle hn hcap
  go_enter Tryz.func148,Tryz.ntmps148
  go_wp2_with fail
  go_quiet (fail)
  go_wp2
  go_ret
  exact ⟨by simp,_,rfl⟩
theorem zll {w:World} {A X:Nat} {v:Value} {a:Alc} (h:VR w A X v a) (i:Nat) (hi:i≤a.l.length):
  Calls Tp 149 #[Y (V ⟨A,0,O⟩),E Z i] w fun e w'=>e=Rt (E Z (zV a.hi a.l i))∧ ∃q,w'=w.drewN q:=by
 have ho:=h.obj;obtain ⟨n,hn⟩: ∃n,n=a.l.length:=⟨_,rfl⟩;have dV:(n:Int)≤65536:=by have:=h.len;omega
 by_cases hlt:i<a.l.length
 ·obtain ⟨g,cp,rfl,_,_,hcap,p1,_⟩:=Vw h.row Y1;have c3:w.cell? ⟨A,3,O⟩=V (Sl (V ⟨g,0,O⟩) n cp):=by rw[ze ho,hn];rfl
  obtain ⟨b0,b1,_⟩:=zd9 (l:=a.l) (i:=i) hlt;have x0:w.cell? ⟨g,i*3,O⟩=V (E Z (KI a.l i).pos):=(p1 _ Y1).trans b0;have e0:zV a.hi a.l i=(KI a.l i).pos:=if_pos hlt;rw[e0];have hjn:(i:Int)<(n:Int):=Y1;generalize (KI a.l i).pos=p at*;clear h ho hi e0 b0 b1 p1 hn hcap hlt;exact zxb
 ·obtain rfl:i=n:=Y1;obtain ⟨Av,cv,hv⟩:=zn h.row;have c3:w.cell? ⟨A,3,O⟩=V (.slice Av i cv):=by rw[ze ho,hv,hn];rfl
  have c2:w.cell? ⟨A,2,O⟩=V (E Z a.hi):=Y54;have e0:zV a.hi a.l i=a.hi:=if_neg hlt;rw[e0];clear h ho hi e0 hn hlt hv;exact zxb
theorem jU {w:World} {base:Nat} {e:TypeId} {size n:Nat} {v:Value} {xs:List Value} {g:Nat} (h:w.ownsRow base e size v n xs) (hv:v.ownBlock=some g): ∃cur,w.heap[g]?=V (.cells cur e (0,0)):=Zz h hv
theorem VR.apart {w:World} {A X gc gw:Nat} {v:Value} {a:Alc} {m:Mem} (h:VR w A X v a) (hm:Zn w X gc gw m): ∀b,OfA A v b→ ¬(b=X∨b=gc∨b=gw):=by
 intro b hb;obtain ⟨t,c,ho⟩:=hm.obj;rcases hb with rfl|hb
 ·rintro (e|e|e)
  ·exact Zp h.obj ho Y2 e
  ·exact Zp h.obj hm.hs Y2 e
  ·exact Zp h.obj hm.ws Y2 e
 ·obtain ⟨cur,hc⟩:=jU h.row hb;rintro (e|e|e)
  ·exact Zp hc ho Y2 e
  ·exact Zp hc hm.hs Y2 e
  ·exact Zp hc hm.ws Y2 e
theorem VR.ne {w:World} {A X:Nat} {v:Value} {a:Alc} (h:VR w A X v a):v.ownBlock≠some A:=by
 intro e;obtain ⟨cur,hc⟩:=jU h.row e;exact Zp hc h.obj Y2 rfl
structure bH (w:World) (A X:Nat) (v:Value) (lo hi:Nat) (l:List GI):Prop where
 obj:w.heap[A]?=V (.cells #[Y (V ⟨X,0,O⟩),E Z lo,E Z hi,v] 303 (0,0))
 row:w.ownsRow 0 306 3 v l.length (ZP l)
theorem VR.raw {w:World} {A X:Nat} {v:Value} {a:Alc} (h:VR w A X v a):bH w A X v a.lo a.hi a.l:=⟨h.obj,h.row⟩
section
variable {w w':World} {A X g c lo hi:Nat} {v v':Value} {l:List GI}
theorem bH.ne (h:bH w A X v lo hi l):v.ownBlock≠some A:=by
 intro e;obtain ⟨cur,hc⟩:=jU h.row e;exact Zp hc h.obj Y2 rfl
theorem bH.zk (h:bH w A X v lo hi l) (e: ∀k,OfA A v k→w'.heap[k]?=w.heap[k]?):bH w' A X v lo hi l:=
 ⟨(e A (Or.inl rfl)).trans h.obj,za h.row fun k hk=>e k (Or.inr hk)⟩
theorem zmv (l:List GI) (b:GI):ZP (l++ [b])=ZP l++ [E Z b.pos,E Z b.n,E Z b.w]:=by simp[ZP,jJ]
theorem zgp (l:List GI): ∀u∈ZP l,u.oneCell'=true:=by
 intro u hu;obtain ⟨t,_,h⟩:=List.mem_flatMap.1 hu;simp[jJ] at h;rcases h with rfl|rfl|rfl<;>rfl
theorem bH.laid (h:w.heap[A]?=V (.cells #[Y (V ⟨X,0,O⟩),E Z lo,E Z hi,v] 303 (0,0))) (hr:w.ownsRow 0 306 3 v' l.length (ZP l)):bH (w.setCell ⟨A,3,O⟩ v') A X v' lo hi l:=by
 refine ⟨zy h _,za hr fun k hk=>?_⟩;obtain ⟨cur,hc⟩:=jU hr hk;exact zm (Zp hc h Y2)
theorem bH.moved (h:bH w A X (Sl (V ⟨g,0,O⟩) (l.length+1) c) lo hi (l++ [zB])) (i:Nat) (hi':i<l.length):
  ∃cur:Array Value,w.heap[g]?=V (.cells cur 306 (0,0))∧(i+1)*3+(ZP (l.drop i)).length≤cur.size∧
   bH (w.setRow g (cur.toList.take ((i+1)*3)++ZP (l.drop i)++cur.toList.drop ((i+1)*3+(ZP (l.drop i)).length)).toArray) A X (Sl (V ⟨g,0,O⟩) (l.length+1) c) lo hi ((l++ [zB]).take (i+1)++l.drop i):=by
 have hr:=h.row;have e1:(l++ [zB]).length=l.length+1:=Y7;rw[e1] at hr;have e2:(ZP (l.drop i)).length=(l.length - i)*3:=by rw[Gs,List.length_drop]
 obtain ⟨cur,hc,hsz,hr2⟩:=zob hr ((i+1)*3) (ZP (l.drop i)) (by rw[e2];omega);have hgA:A≠g:=fun e=>h.ne Y65;refine ⟨cur,hc,hsz,(kE w g A _ hgA).trans h.obj,?_⟩;have e3:((l++ [zB]).take (i+1)++l.drop i).length=l.length+1:=Y8;rw[e3];have e4:ZP ((l++ [zB]).take (i+1)++l.drop i)=(ZP (l++ [zB])).take ((i+1)*3)++ZP (l.drop i)++(ZP (l++ [zB])).drop ((i+1)*3+(ZP (l.drop i)).length):=by
  have e5:(ZP (l++ [zB])).take ((i+1)*3)=ZP ((l++ [zB]).take (i+1)):=zfz (f:=jJ) (fun _=>rfl) _ _;have e6:(ZP (l++ [zB])).drop ((i+1)*3+(ZP (l.drop i)).length)= []:=by
   apply List.drop_eq_nil_of_le;rw[Gs,e1,e2];omega
  rw[e5,e6,List.append_nil];simp[ZP]
 rw[e4];exact hr2
theorem bH.stored (h:bH w A X (Sl (V ⟨g,0,O⟩) l.length c) lo hi l) (i:Nat) (hi':i<l.length) (b:GI):
  bH (((w.setCell ⟨g,i*3,O⟩ (E Z b.pos)).setCell ⟨g,i*3+1,O⟩ (E Z b.n)).setCell ⟨g,i*3+2,O⟩ (E Z b.w)) A X (Sl (V ⟨g,0,O⟩) l.length c) lo hi (l.set i b):=by
 have hgA:A≠g:=fun e=>h.ne Y65;have h1:=(h.row.stored (i*3) (E Z b.pos)).1;have h2:=(h1.stored (i*3+1) (E Z b.n)).1;have h3:=(h2.stored (i*3+2) (E Z b.w)).1;have e:(((ZP l).set (i*3) (E Z b.pos)).set (i*3+1) (E Z b.n)).set (i*3+2) (E Z b.w)=ZP (l.set i b):=by
  have f1:=jN (k:=3) (f:=jJ) (fun _=>rfl) l i hi' 0 Y1 (E Z b.pos) ⟨b.pos,(l[i]).n,(l[i]).w⟩ rfl;have f2:=jN (k:=3) (f:=jJ) (fun _=>rfl) (l.set i ⟨b.pos,(l[i]).n,(l[i]).w⟩) i Y98 1 Y1 (E Z b.n) ⟨b.pos,b.n,(l[i]).w⟩ (by rw[List.getElem_set_self];rfl);have f3:=jN (k:=3) (f:=jJ) (fun _=>rfl) ((l.set i ⟨b.pos,(l[i]).n,(l[i]).w⟩).set i ⟨b.pos,b.n,(l[i]).w⟩) i Y98 2 Y1 (E Z b.w) b (by rw[List.getElem_set_self];rfl);unfold ZP;rw[show i*3=i*3+0 from rfl,f1,f2,f3,List.set_set,List.set_set]
 rw[e] at h3;refine ⟨?_,by rw[List.length_set];exact h3⟩;rw[zm hgA,zm hgA,zm hgA];exact h.obj
theorem zuX (l:List GI) (i:Nat) (h:i≤l.length) (b:GI):((l++ [zB]).take (i+1)++l.drop i).set i b=l.take i++b::l.drop i:=by
 have e1:(l++ [zB]).take (i+1)=l.take i++ [(l++ [zB])[i]' Y8]:=by
  rw[List.take_succ_eq_append_getElem Y8,List.take_append_of_le_length h]
 rw[e1,List.append_assoc,List.set_append_right _ _ Y8,List.length_take,Nat.min_eq_left h,Nat.sub_self];rfl
end
def ztL (w:World) (A X gc gw:Nat) (v:Value) (r:Option (Nat×Alc×Mem)) (e:Ending) (w':World):Prop:=match r with
 |none=>(∃ev,e=Rt (.tuple #[E Z 0,ev])∧Som ev)∧Below w.heap.size w w'
 |some (p,a',m')=>e=Rt (.tuple #[E Z p, .nilIface])∧ ∃v',VR w' A X v' a'∧Zn w' X gc gw m'∧Keeps (fun b=>b=X∨b=gc∨b=gw∨OfA A v b) w w'∧ ∀b,v'.ownBlock=some b→v.ownBlock=some b∨w.heap.size≤b
theorem zj0:(Tryz.prog.info? 306).map (fun i=>(i.zero,i.size,i.bytes))=V (some (.agg #[E Z 0,E Z 0,E Z 0]),3,24):=Y4
theorem zse {w:World} {A X gc gw:Nat} {v:Value} {a:Alc} {m:Mem} (h:VR w A X v a) (hm:Zn w X gc gw m) (n:Nat) (hn:n≤4096):
  Calls Tp 101 #[Y (V ⟨A,0,O⟩),E Z n,E Z 64] w (ztL w A X gc gw v (kL a m n 64)):=by
 have HF:=Y0 (fun n t x W=>BQ n t x W);by_cases hn0:n=0
 ·subst hn0;have e0:kL a m 0 64=none:=by unfold kL;rw[if_pos (Or.inl Y1)]
  rw[e0];clear h hm hn e0;go_enter Tryz.func101,Tryz.ntmps101;go_wp2_with fail;refine (HF.out _ _ _ _).mono ?_;rintro e w1 ⟨⟨ev,rfl,hev⟩,hb1⟩;go_wp2;go_ret2;exact ⟨⟨_,rfl,hev⟩,hb1⟩
 have hn1:1≤(n:Int):=Y1;have dV:(n:Int)≤4096:=Y1;obtain ⟨L,hL⟩: ∃L,L=a.l.length:=⟨_,rfl⟩;obtain ⟨Av,cv,rfl⟩:=zn h.row;have Sd:=h.len;have rM:(L:Int)≤65536:=Y1;have H:=Y0 h;have HM:=Y0 hm;have HL:=Y0 hL;rw[←hL] at H;have F4:=Y0 (fun (W:World) (e:W.heap=w.heap) (i:Nat) (hi:i≤a.l.length)=>zsW (h.zk (w':=W) (fun k _=>by rw[e])) i hi);have wZ:=Y0 (fun (W:World) (e:W.heap=w.heap) (i:Nat) (hi:i≤a.l.length)=>zll (h.zk (w':=W) (fun k _=>by rw[e])) i hi);have F9:=Y0 (fun k hk hb hh=>zva n a.hi a.l a.lo k hk hb hh);have j6:=Y0 (ztN n a.hi a.l a.lo);have fT:=Y0 (fun i hi=>zjX h.ok i hi);have tQ:=Y0 h.most;have hA:=h.obj;have hgA:kL a m n 64=(match zec n a.hi a.lo a.l with|none=>none|some (at',k)=>if m.free? at' n then some (at',{ a with l:=a.l.take k++⟨at',n,64⟩::a.l.drop k},m.map at' n 64) else none):=by
  unfold kL;rw[if_neg Y1];rfl
 have HG:=Y0 hgA;have c3:w.cell? ⟨A,3,O⟩=V (.slice Av L cv):=by rw[ze hA,hL];rfl
 have EJ:=Y0 c3;have c0:w.cell? ⟨A,0,O⟩=V (Y (V ⟨X,0,O⟩)):=by rw[ze hA];rfl
 have PU:=Y0 c0;clear h hm hgA hL Sd hn c3 c0 hA hn0;go_enter Tryz.func101,Tryz.ntmps101;go_wp2_with fail;go_loopw [8] (fun iv wr=> ∃i q:Nat,i≤L+1∧iv=E Z (i:Int)∧Hid (wr=w.drewN q)∧Hid (∀j,j<i→(zV a.hi a.l j:Int) - gD a.lo a.l j<n)) (fun iv _=>L+1 - (intOf iv).toNat);case atStart=>exact ⟨0,0,by omega,rfl,Y0 rfl,Y0 fun j hj=>absurd hj Y1⟩
 case round=>
  obtain ⟨i,q,hi,rfl,HW,HB⟩:=hrel;have c3:wr.cell? ⟨A,3,O⟩=V (.slice Av L cv):=by rw[HW.out];exact EJ.out
  by_cases hle:i≤L
  ·have yD:(i:Int)≤(L:Int):=Y1;have E1:=Y0 (F4.out wr (by rw[HW.out];rfl) i Y36);have E2:=Y0 (fun q'=>wZ.out (wr.drewN q') (by rw[HW.out];rfl) i Y36);have hbd:=fT.out i Y36;have hmo:=tQ.out;have Ni:=Y0 (F9.out i Y36 HB.out);obtain ⟨en,hen⟩: ∃en,en=gD a.lo a.l i:=⟨_,rfl⟩;obtain ⟨st,hst⟩: ∃st,st=zV a.hi a.l i:=⟨_,rfl⟩;rw[←hen,←hst] at hbd;have tH:=Y0 hen;have dX:=Y0 hst;rw[←hen] at E1;rw[←hst] at E2;rw[←hen,←hst] at Ni;have hb1:(en:Int)≤(st:Int):=Y1;have hb2:(st:Int)≤65536:=Y1;have SA:en≤65536:=Y1;clear hen hst hbd hmo;go_wp2_with fail;refine E1.out.mono ?_;rintro e w1 ⟨rfl,q1,rfl⟩;go_wp2_with fail;refine (E2.out _).mono ?_;rintro e w1 ⟨rfl,q2,rfl⟩;rw[World.drewN_drewN];have o8:Hid (wr.drewN (q1+q2)=w.drewN (q+(q1+q2))):=Y0 (by rw[HW.out,World.drewN_drewN]);by_cases hlt:(st:Int) - (en:Int)<(n:Int)
   ·have Mh:decide ((st:Int) - (en:Int)<(n:Int))=true:=by simpa using hlt
    go_wp2_with fail;go_roundw;case rel=>
     refine ⟨i+1,q+(q1+q2),by omega,by go_num,o8,Y0 fun j hj=>?_⟩;rcases Nat.lt_succ_iff_lt_or_eq.1 hj with h1|h1
     ·exact HB.out j h1
     ·rw[h1,←tH.out,←dX.out];exact hlt
    case measure=>simp[intOf];omega
   ·have Mh:decide ((st:Int) - (en:Int)<(n:Int))=false:=by simpa using hlt
    have Nj:=Y0 (Ni.out Y1)
    have c0:wr.cell? ⟨A,0,O⟩=V (Y (V ⟨X,0,O⟩)):=by rw[HW.out];exact PU.out
    have hnn:(n:Int)≤(st:Int) - (en:Int):=Y1
    have EM:=Y0 (zjT (HM.out.zk (w':=wr.drewN (q1+q2)) (fun b _=>by rw[HW.out];rfl)) en n 64 (Or.inr rfl) Y1 Y1 Y1)
    cases hfr:m.free? en n with
    |false=>
     rw[hfr,if_neg Y2] at EM;have e0:kL a m n 64=none:=by
      rw[HG.out,Nj.out];simp only[hfr];rfl
     have mP:=Y0 e0;have iY:Hid (Below w.heap.size w (wr.drewN (q1+q2))):=Y0 (by rw[o8.out];exact below_drewN w _);clear e0 hfr;go_wp2_with fail;refine EM.out.mono ?_;rintro e w3 ⟨⟨ev,rfl,t,x,rfl⟩,hb3⟩;go_wp2_with fail;refine (HF.out _ _ _ _).mono ?_;rintro e w4 ⟨⟨ev,rfl,hev⟩,hb4⟩;go_wp2;go_ret2;rw[mP.out];exact ⟨⟨_,rfl,hev⟩,(iY.out.trans (hb3.mono iY.out.size)).trans (hb4.mono (by have:=iY.out.size;have:=hb3.size;omega))⟩
    |true=>
     rw[hfr,if_pos rfl] at EM;have mP:Hid (kL a m n 64=V (en,{ a with l:=a.l.take i++⟨en,n,64⟩::a.l.drop i},m.map en n 64)):=Y0 (by
      rw[HG.out,Nj.out]
      simp only[hfr]
      rfl)
     have q9:Hid (okB a.hi a.lo (a.l.take i++⟨en,n,64⟩::a.l.drop i)):=Y0 (by
      have:=zkb (n:=n) (wd:=64) Y1 Y1 (Or.inr rfl) H.out.ok i Y36 (by rw[←tH.out,←dX.out];omega)
      rwa[←tH.out] at this)
     have hheap:(wr.drewN (q1+q2)).heap=w.heap:=by rw[HW.out];rfl
     have Ca:=Y0 hheap;clear hfr hheap;go_wp2_with fail;refine EM.out.mono ?_;rintro e w3 ⟨rfl,eP,hk3⟩;have hap:=H.out.apart HM.out;have hb3: ∀k,OfA A (.slice Av L cv) k→w3.heap[k]?=w.heap[k]?:=fun k hk=>(hk3.block k (by rw[Ca.out];exact H.out.of_lt hk) (hap k hk)).trans (by rw[Ca.out]);have R3:=H.out.raw.zk hb3;have rJ:A<w3.heap.size:=zo R3.obj;have c3':w3.cell? ⟨A,3,O⟩=V (.slice Av L cv):=by rw[ze R3.obj];rfl
     have f3': ∀o,w3.frozen? ⟨A,o,O⟩=false:=fun o=>zF R3.obj o;obtain ⟨i3,hi3,hz3,sJ,xY⟩:=info_parts zj0;have hr3:w3.ownsRow 0 306 3 (.slice Av L cv) L (ZP a.l):=by have:=R3.row;rwa[←HL.out] at this
     have E4:=Y0 (hr3.alloc (Ce #[E Z 0,E Z 0,E Z 0] 306));have N4:Hid (∀j u,([E Z 0,E Z 0,E Z 0]:List Value)[j]?=some u→(w3.alloc (Ce #[E Z 0,E Z 0,E Z 0] 306)).cell? ((⟨w3.heap.size,0,O⟩:Addr).add j)=some u):=Y0 (by
      intro j u hu
      rw[Addr.add_lit,Nat.zero_add]
      exact (World.cell?_alloc_at _ _ _ _ rfl).trans Y23)
     have O4:Hid (∀u∈([E Z 0,E Z 0,E Z 0]:List Value),u.oneCell'=true):=Y0 (by
      intro u hu
      simp at hu
      subst hu
      rfl)
     have IK:=Y0 (show L+1≤maxLen by unfold maxLen;omega);have IL:=Y0 (show (L+1)*24≤140737488355328 by omega);have IQ:=Y0 (show 0≤(w3.alloc (Ce #[E Z 0,E Z 0,E Z 0] 306)).heap.size by omega);have Co:=Y0 H.out.ne;have rz:=Y0 R3;have fV:=Y0 eP;have fE:Hid (Keeps (fun b=>b=X∨b=gc∨b=gw∨OfA A (.slice Av L cv) b) w w3):=Y0 ⟨by rw[hk3.os,o8.out];rfl,by rw[hk3.tape,o8.out];rfl,by rw[hk3.output,o8.out];rfl,by have:=hk3.size;rw[Ca.out] at this;exact this,fun k hk hx=>(hk3.block k (by rw[Ca.out];exact hk) (fun hh=>hx (by rcases hh with hh|hh|hh<;>first|exact Or.inl hh|exact Or.inr (Or.inl hh) |exact Or.inr (Or.inr (Or.inl hh))))).trans (by rw[Ca.out])⟩;have aY:=Y0 hb3;clear hap hb3 R3 hr3 eP hk3
     go_wp2_with (at_builtin;refine wpList_append_own_at _ rfl _ _ 301 rfl 0 306 i3 _ 3 24 Tryz.underlying301 hi3 hz3 sJ xY rfl Y2 _ _ _ rfl E4.out ⟨w3.heap.size,0,O⟩ 1 1 [E Z 0,E Z 0,E Z 0] rfl rfl N4.out O4.out IK.out IL.out IQ.out ?_;intro v' w5 hown hgrow _ hnew;obtain ⟨A',c',rfl⟩:=zn hown;have t0:=(World.cell?_of_block (a:=⟨A,3,O⟩) (hgrow.block A Y8 (fun e=>Co.out e.symm))).trans ((World.cell?_alloc_lt _ _ ⟨A,3,O⟩ rJ).trans c3');have t1:=(World.frozen?_of_block (a:=⟨A,3,O⟩) (hgrow.block A Y8 (fun e=>Co.out e.symm))).trans ((World.frozen?_alloc_old _ _ ⟨A,3,O⟩ (Nat.ne_of_lt rJ)).trans (f3' 3));have dN:=Y0 hown;have qC:=Y0 hgrow;have qE:=Y0 hnew;clear hown hgrow hnew)
     have hblk5: ∀k,k<w3.heap.size→Value.ownBlock (.slice Av L cv)≠some k→w5.heap[k]?=w3.heap[k]?:=fun k hk hne=>(qC.out.block k Y8 (fun e=>hne e.symm)).trans (Below.heap_alloc _ _ _ hk);have Db:w5.heap[A]?=V (.cells #[Y (V ⟨X,0,O⟩),E Z a.lo,E Z a.hi, .slice Av L cv] 303 (0,0)):=(hblk5 A rJ Co.out).trans rz.out.obj;have oH:w5.ownsRow 0 306 3 (.slice A' (L+1) c') (a.l++ [zB]).length (ZP (a.l++ [zB])):=by
      rw[zmv,List.length_append,←HL.out];exact dN.out
     have R6:=bH.laid Db oH;have uF:Keeps (fun b=>b=X∨b=gc∨b=gw∨OfA A (.slice Av L cv) b) w w5:=(fE.out.alloc (Ce #[E Z 0,E Z 0,E Z 0] 306)).grown qC.out fun k hk=>Or.inr (Or.inr (Or.inr (Or.inr hk)));have K6:Keeps (fun b=>b=X∨b=gc∨b=gw∨OfA A (.slice Av L cv) b) w (w5.setCell ⟨A,3,O⟩ (.slice A' (L+1) c')):=uF.setCell (p:=⟨A,3,O⟩) (Or.inr (Or.inr (Or.inr (Or.inl rfl)))) _;have M6:Zn (w5.setCell ⟨A,3,O⟩ (.slice A' (L+1) c')) X gc gw (m.map en n 64):=fV.out.zk fun b hb=>by
      have hba:b≠A:=fun e=>H.out.apart HM.out A (Or.inl rfl) (by rw[←e];exact hb);rw[zm hba];refine hblk5 b ?_ (fun e=>H.out.apart HM.out b (Or.inr e) hb);obtain ⟨l1,l2,l3⟩:=fV.out.lt;rcases hb with rfl|rfl|rfl<;>assumption
     have F6: ∀g,A'=some ⟨g,0,O⟩→Value.ownBlock (.slice Av L cv)=some g∨w.heap.size≤g:=by
      intro g hg;rcases qE.out with h1|h1
      ·exact Or.inl ((show Value.ownBlock (.slice Av L cv)=Value.ownBlock (.slice A' (L+1) c') from h1.symm).trans (by rw[hg];rfl))
      ·have h1':Value.ownBlock (.slice A' (L+1) c')=V (w3.alloc (Ce #[E Z 0,E Z 0,E Z 0] 306)).heap.size:=h1;rw[hg] at h1';have:g=(w3.alloc (Ce #[E Z 0,E Z 0,E Z 0] 306)).heap.size:=by injection h1'
       right;have h2:=fE.out.size;rw[this];simp;omega
     generalize w5.setCell ⟨A,3,O⟩ (.slice A' (L+1) c')=w6 at R6 K6 M6 ⊢;have MF:=R6.row;rw[List.length_append,←HL.out] at MF;obtain ⟨g,c,hgv,_,hgl,hcap,_,_⟩:=Vw MF Y7;injection hgv with hg1 hgn hg2
     subst hg1 hg2;clear hgn;have wH:=Y0 (F6 g rfl);have Cv:=Y0 R6;have Ci:=Y0 K6;have qD:=Y0 M6;have c6:w6.cell? ⟨A,3,O⟩=V (Sl (V ⟨g,0,O⟩) (L+1) c'):=by rw[ze R6.obj];rfl
     have hcI:(L:Int)+1≤(c':Int):=by simp at hcap;omega
     clear hblk5 Db oH R6 uF K6 M6 F6 MF hgl hcap;have hs1:IntKind.i64.wrap ((i:Int)+1)=(i:Int)+1:=IntWalk.i64_in _ Y1;have hs2:(0:Int)≤(i:Int)+1:=Y1;have hs3:(i:Int)+1≤(L:Int)+1:=Y1;have hs4:(i:Int)≤(L:Int)+1:=Y1;have hcopy:Hid (∃(cnt:Nat) (w7:World),(Builtin.copy_ #[301,301] 3 #[.slice (if c'=i+1 then some ⟨g,0,O⟩ else some ⟨g,(i+1)*3,O⟩) (L - i) (c' - (i+1)), .slice (if c'=i then some ⟨g,0,O⟩ else some ⟨g,i*3,O⟩) (L+1 - i) (c' - i)]).run Tp w6.drew= .ok (goInt cnt) w7∧
       bH w7 A X (Sl (V ⟨g,0,O⟩) (L+1) c') a.lo a.hi ((a.l++ [zB]).take (i+1)++a.l.drop i)∧Keeps (fun b=>b=X∨b=gc∨b=gw∨OfA A (.slice Av L cv) b) w w7∧Zn w7 X gc gw (m.map en n 64)):=Y0 (by
      have hsize:(Tryz.prog.info? 306).map (·.size)=some 3:=by rw[hi3];exact congrArg some sJ
      by_cases fC:i<L
      ·have R6:=Cv.out
       rw[HL.out] at R6
       obtain ⟨cur,hc,hsz,R7⟩:=R6.moved i (by rw[←HL.out];exact fC)
       have hlen:(ZP (a.l.drop i)).length=(L - i)*3:=by rw[Gs,List.length_drop,←HL.out]
       have hr:=R6.row
       rw[show (a.l++ [zB]).length=a.l.length+1 by simp] at hr
       obtain ⟨g',c'',hv',_,_,_,p1,_⟩:=Vw hr Y1
       injection hv' with hv1 _ _
       injection hv1 with hv1
       injection hv1 with hv1 _ _
       subst hv1
       rw[if_neg Y1,if_neg Y1]
       have hrun:=BK (P:=Tp) w6.drew 301 301 3 306 3 g ((i+1)*3) (L - i) (c' - (i+1)) ⟨g,i*3,O⟩ (L+1 - i) (c' - i) cur 306 (ZP (a.l.drop i)) Tryz.underlying301 hsize hc
        (by rw[hlen,show Nat.min (L+1 - i) (L - i)=L - i from Nat.min_eq_right Y1])
        (by
         intro j u hj
         have hjl:j<(L - i)*3:=by rw[←hlen];exact (List.getElem?_eq_some_iff.1 hj).1
         rw[Addr.add_lit]
         refine (p1 (i*3+j) Y40).trans ?_
         have e1:(ZP (a.l.drop i))=(ZP a.l).drop (i*3):=(zfZ (f:=jJ) (fun _=>rfl) a.l i).symm
         rw[e1,List.getElem?_drop] at hj
         have e2:ZP (a.l++ [zB])=ZP a.l++ZP [zB]:=by simp[ZP]
         rw[e2,List.getElem?_append_left (by rw[Gs,←HL.out];omega)]
         exact hj) hsz (zgp _)
       refine ⟨_,_,hrun,?_,?_,?_⟩
       ·rw[HL.out];exact R7.zk fun _ _=>rfl
       ·have hk:Keeps (fun k=>k=g) w6.drew (w6.drew.setRow g (cur.toList.take ((i+1)*3)++ZP (a.l.drop i)++cur.toList.drop ((i+1)*3+(ZP (a.l.drop i)).length)).toArray):=⟨rfl,rfl,rfl,by rw[bn];exact Nat.le_refl _,fun k _ hx=>kE _ _ _ _ hx⟩
        refine Ci.out.drew.trans hk fun k hk=>?_
        subst hk
        rcases wH.out with h1|h1
        ·exact Or.inl (Or.inr (Or.inr (Or.inr (Or.inr h1))))
        ·exact Or.inr h1
       ·refine qD.out.zk fun b hb=>?_
        have:b≠g:=by
         obtain ⟨t,ct,ho⟩:=qD.out.obj
         rcases hb with rfl|rfl|rfl
         ·exact Zp ho hc Y2
         ·exact Zp qD.out.hs hc Y2
         ·exact Zp qD.out.ws hc Y2
        exact kE w6.drew g b _ this
      ·obtain rfl:i=L:=Y1
       refine ⟨0,w6.drew,zbX w6.drew _ _ _ 306 3 _ _ _ _ _ _ Tryz.underlying301 hsize (by rw[Nat.sub_self i];exact Nat.min_zero _),?_,Ci.out.drew,qD.out.zk fun _ _=>rfl⟩
       have e1:(a.l++ [zB]).take (i+1)++a.l.drop i=a.l++ [zB]:=by
        rw[HL.out,List.drop_length,List.append_nil,List.take_of_length_le Y7]
       rw[e1]
       exact Cv.out.zk fun _ _=>rfl)
     go_still_tail 13,Y4;change wpList _ _ _ _ _ w6.drew;obtain ⟨cnt,w7,hrun,R7,K7,M7⟩:=hcopy.out;refine zbJ w6.drew rfl (.tmp 75) (.tmp 81) _ _ rfl _ _ rfl rfl hrun ?_;have e7:((a.l++ [zB]).take (i+1)++a.l.drop i).length=L+1:=by have:=HL.out;simp;omega
     have IX:bH w7 A X (Sl (V ⟨g,0,O⟩) ((a.l++ [zB]).take (i+1)++a.l.drop i).length c') a.lo a.hi ((a.l++ [zB]).take (i+1)++a.l.drop i):=by rw[e7];exact R7
     have R8:=IX.stored i (by rw[e7];omega) ⟨en,n,64⟩;rw[zuX a.l i Y36,e7] at R8;have uK:(a.l.take i++⟨en,n,64⟩::a.l.drop i).length=L+1:=by have:=HL.out;simp;omega
     obtain ⟨g',c'',hv',_,hgl,_,p7,f7⟩:=Vw IX.row (by rw[e7];omega);injection hv' with hv1 hv2 hv3
     injection hv1 with hv1
     injection hv1 with hv1 _ _
     subst hv1;clear hv2 hv3;have hx7: ∀j,j<3→ ∃u,w7.cell? ⟨g,i*3+j,O⟩=some u:=fun j hj=>by
      rw[p7 (i*3+j) (by rw[e7];omega)];have:i*3+j<(ZP ((a.l++ [zB]).take (i+1)++a.l.drop i)).length:=by rw[Gs,e7];omega
      exact ⟨_,List.getElem?_eq_getElem this⟩
     obtain ⟨u0,x0⟩:=hx7 0 Y1;obtain ⟨u1,x1⟩:=hx7 1 Y1;obtain ⟨u2,x2⟩:=hx7 2 Y1;rw[Nat.add_zero] at x0;have c7:w7.cell? ⟨A,3,O⟩=V (Sl (V ⟨g,0,O⟩) (L+1) c'):=by rw[ze R7.obj];rfl
     have rV:g≠X∧g≠gc∧g≠gw:=by
      obtain ⟨cur,hc⟩:=jU R7.row (g:=g) rfl;obtain ⟨t,ct,ho⟩:=M7.obj;exact ⟨Zp hc ho Y2,Zp hc M7.hs Y2,Zp hc M7.ws Y2⟩
     have M8:Zn (((w7.setCell ⟨g,i*3,O⟩ (E Z en)).setCell ⟨g,i*3+1,O⟩ (E Z n)).setCell ⟨g,i*3+2,O⟩ (E Z 64)) X gc gw (m.map en n 64):=M7.zk fun b hb=>by
      have:b≠g:=by rcases hb with rfl|rfl|rfl<;>first|exact rV.1.symm|exact rV.2.1.symm|exact rV.2.2.symm
      rw[zm this,zm this,zm this]
     have K8:Keeps (fun b=>b=X∨b=gc∨b=gw∨OfA A (.slice Av L cv) b) w (((w7.setCell ⟨g,i*3,O⟩ (E Z en)).setCell ⟨g,i*3+1,O⟩ (E Z n)).setCell ⟨g,i*3+2,O⟩ (E Z 64)):=by
      refine K7.trans (ay:=fun k=>k=g) ((((Keeps.refl (fun k=>k=g) w7).setCell (p:=⟨g,i*3,O⟩) rfl _).setCell (p:=⟨g,i*3+1,O⟩) rfl _).setCell (p:=⟨g,i*3+2,O⟩) rfl _) fun k hk=>?_;subst hk;rcases wH.out with h1|h1
      ·exact Or.inl (Or.inr (Or.inr (Or.inr (Or.inr h1))))
      ·exact Or.inr h1
     have NI:=Y0 R8;have Qr:=Y0 M8;have Qg:=Y0 K8;have HL8:=Y0 uK;clear R7 IX R8 M7 M8 K7 K8 e7 p7 hx7 rV uK hrun hcopy;go_wp2_with fail;all_goals
      go_ret2
      rw[mP.out]
      have RY:=HL.out
      subst RY
      exact ⟨rfl,_,⟨q9.out,tQ.out,NI.out.obj,by have:=NI.out.row;exact this⟩,Qr.out,Qg.out,fun b hb=>by
       have:b=g:=by injection hb with hb;exact hb.symm
       subst this
       exact wH.out⟩
  ·obtain rfl:i=L+1:=Y1;have e0:kL a m n 64=none:=by
    rw[HG.out,j6.out fun j hj=>HB.out j (by rw[HL.out];omega)]
   have mP:=Y0 e0;have iY:Hid (Below w.heap.size w wr):=Y0 (by rw[HW.out];exact below_drewN w _);have yC:(L:Int)<((L+1:Nat):Int):=Y1;clear e0 hle;go_wp2_with fail;refine (HF.out _ _ _ _).mono ?_;rintro e w4 ⟨⟨ev,rfl,hev⟩,hb4⟩;go_wp2;go_ret2;rw[mP.out];exact ⟨⟨_,rfl,hev⟩,iY.out.trans (hb4.mono iY.out.size)⟩
theorem VL {w:World} {g o:Nat} {A y B:List Value} {t:TypeId} (h:w.heap[g]?=V (.cells (A++y++B).toArray t (0,0))) (j:Nat) (hj:j<y.length) (ho:o=A.length+j) (v:Value):
  (w.setCell ⟨g,o,O⟩ v).heap[g]?=V (.cells (A++y.set j v++B).toArray t (0,0)):=by
 rw[zy h,ho,←set_mid A y B j hj v];simp
theorem Vh.mid {w:World} {T gt:Nat} {l:List Zt} {N:Nat} (h:Vh w T gt l N) {p:Nat} (hp:p<64):
  w.heap[gt]?=V (.cells ((l.take p).flatMap gL++gL (tAt l p)++(l.drop (p+1)).flatMap gL).toArray 311 (0,0))∧((l.take p).flatMap gL).length=p*10:=by
 have hlt:p<l.length:=Y81;refine ⟨?_,by rw[BA (k:=10) (fun _=>rfl),List.length_take,Nat.min_eq_left Y1]⟩;rw[Jd hlt,←zaN l p hlt];exact h.row
theorem Vh.put {w w':World} {T gt:Nat} {l:List Zt} {N:Nat} (h:Vh w T gt l N) {p:Nat} (hp:p<64) (r:Zt) (hr:Jz r p N) (hT:w'.heap[T]?=w.heap[T]?)
  (hm:w'.heap[gt]?=V (.cells ((l.take p).flatMap gL++gL r++(l.drop (p+1)).flatMap gL).toArray 311 (0,0))):Vh w' T gt (l.set p r) N:=by
 have hlt:p<l.length:=Y81;refine ⟨h.ok.set hp hr,hT.trans h.obj,?_⟩;rw[hm,zek l p hlt];rfl
theorem VH:Zm 0:=⟨by decide,by decide⟩
theorem free_at {l:List Zt} {i:Nat} (hi:i<l.length) (hb: ∀j,j<i→(tAt l j).t.id≠0) (h:(tAt l i).t.id=0):Jp l=some i:=by
 induction l generalizing i with
 |nil=>simp at hi
 |cons r l ih=>
  unfold Jp
  cases i with
  |zero=>rw[if_pos (show r.t.id=0 from h)]
  |succ i=>
   rw[if_neg (show¬r.t.id=0 from hb 0 Y1),ih Y59 (fun j hj=>hb (j+1) Y1) h]
   rfl
theorem zq4 {l:List Zt} (hb: ∀j,j<l.length→(tAt l j).t.id≠0):Jp l=none:=by
 induction l with
 |nil=>rfl
 |cons r l ih=>
  unfold Jp
  rw[if_neg (show¬r.t.id=0 from hb 0 Y7),ih fun j hj=>hb (j+1) Y50]
  rfl
theorem bF.more {l:List Zt} {N:Nat} (h:bF l N) (hN:N+1≤1000000000):bF l (N+1):=
 ⟨h.len,hN,fun p hp=>by have k:=h.row p hp;exact ⟨by have:=k.times;omega,k.id,k.free,k.state,k.home,k.value,k.joiner⟩⟩
def zq3 (w:World) (T gt:Nat) (l:List Zt) (N:Nat) (r:Option (Int×List Zt)) (e:Ending) (w':World):Prop:=match r with
 |none=>(∃ev,e=Rt (.tuple #[E J 0,ev])∧Som ev)∧Vh w' T gt l N∧Keeps (fun b=>b=gt) w w'
 |some (id,l')=>e=Rt (.tuple #[E J id, .nilIface])∧Vh w' T gt l' (N+1)∧Keeps (fun b=>b=gt) w w'
theorem zqu {w:World} {T gt:Nat} {l:List Zt} {N:Nat} (h:Vh w T gt l N) (home:Int) (hh:Zm home) (hN:N+1≤1000000000):
  Calls Tp 102 #[Y (V ⟨T,0,O⟩),E J home] w (zq3 w T gt l N (gF l home)):=by
 have HF:=Y0 (fun k W=>zaq k W);have H:=Y0 h;have HH:=Y0 hh;have HN:=Y0 hN;have c0:=h.at0;clear h hh hN;go_enter Tryz.func102,Tryz.ntmps102;go_wp2_with fail;go_loopw [13] (fun iv wr=> ∃i:Nat,i≤64∧iv=E Z (i:Int)∧wr=w∧Hid (∀j,j<i→(tAt l j).t.id≠0)) (fun iv _=>64 - (intOf iv).toNat);case atStart=>exact ⟨0,by omega,rfl,rfl,Y0 fun j hj=>absurd hj Y1⟩
 case round=>
  obtain ⟨i,hi,rfl,rfl,HB⟩:=hrel;by_cases hlt:i<64
  ·have aH:(i:Int)<64:=Y1;have hc:=fun j hj=>H.out.cell hlt j hj;have hk:=H.out.ok.row i hlt;obtain ⟨hm,hl⟩:=H.out.mid hlt;have hf:=fun o=>H.out.frozen o;generalize hr:tAt l i=r at hc hk hm;obtain ⟨ti,re,id,st,ho,va,jo,lo,sp⟩:=r;by_cases hz:id=0
   ·subst hz;obtain ⟨hz1,hz2⟩:=hk.free rfl;injection hz1 with _ hz3 eZ mD sV sW hz8
    simp only at hz2;subst hz2 hz3 eZ mD sV sW hz8;have x0:wr.cell? ⟨gt,i*10,O⟩=V (E J ti):=hc 0 Y1;have x1:wr.cell? ⟨gt,i*10+1,O⟩=V (.bool false):=hc 1 Y1;have x3:wr.cell? ⟨gt,i*10+3,O⟩=V (E J 0):=hc 3 Y1;have x4:wr.cell? ⟨gt,i*10+4,O⟩=V (E Z 0):=hc 4 Y1;have x5:wr.cell? ⟨gt,i*10+5,O⟩=V (E J 0):=hc 5 Y1;have x6:wr.cell? ⟨gt,i*10+6,O⟩=V (E J 0):=hc 6 Y1;have x7:wr.cell? ⟨gt,i*10+7,O⟩=V (E J 0):=hc 7 Y1;have x8:wr.cell? ⟨gt,i*10+8,O⟩=V (.bool false):=hc 8 Y1;have x9:wr.cell? ⟨gt,i*10+9,O⟩=V (.bool false):=hc 9 Y1;have f0:=hf (i*10);have f1:=hf (i*10+1);have f3:=hf (i*10+3);have f4:=hf (i*10+4);have f5:=hf (i*10+5);have f6:=hf (i*10+6);have f7:=hf (i*10+7);have f8:=hf (i*10+8);have f9:=hf (i*10+9);have ht:=hk.times;simp only at ht;have ht2:ti≤1000000000:=by have:=HN.out;omega
    have ht1:=ht.1;have m0:=VL hm 0 Y47 (show i*10=_ by rw[hl];rfl) (E J (ti+1));have m1:=VL m0 1 Y47 (show i*10+1=_ by rw[hl]) (.bool true);have m3:=VL m1 3 Y47 (show i*10+3=_ by rw[hl]) (E J ((i:Int)+64* (ti+1)));have m4:=VL m3 4 Y47 (show i*10+4=_ by rw[hl]) (E Z 1);have m5:=VL m4 5 Y47 (show i*10+5=_ by rw[hl]) (E J home);have m6:=VL m5 6 Y47 (show i*10+6=_ by rw[hl]) (E J 0);have m7:=VL m6 7 Y47 (show i*10+7=_ by rw[hl]) (E J 0);have m8:=VL m7 8 Y47 (show i*10+8=_ by rw[hl]) (.bool false);have m9:=VL m8 9 Y47 (show i*10+9=_ by rw[hl]) (.bool false);have HM:=Y0 m9;have hne:((i:Int)+64* (ti+1))≠0:=Y1;have e0:gF l home=V ((i:Int)+64* (ti+1),l.set i ⟨ti+1,false,⟨(i:Int)+64* (ti+1),1,home,0,0,false,false⟩⟩):=by
     unfold gF;rw[free_at (by rw[H.out.ok.len];exact hlt) HB.out (by rw[hr])];have:l.getD i {}=⟨ti,false,⟨0,0,0,0,0,false,false⟩⟩:=hr;simp only[this];rw[Int.emod_eq_of_lt Y1 Y1]
    have HE:=Y0 e0;have HK:Hid (Jz ⟨ti+1,false,⟨(i:Int)+64* (ti+1),1,home,0,0,false,false⟩⟩ i (N+1)):=Y0 ⟨by show 0≤ti+1∧ti+1≤((N+1:Nat):Int);omega,fun _=>⟨rfl,by show 1≤ti+1;omega⟩,fun e=>absurd e hne,show (0:Int)≤1∧(1:Int)≤4 by decide,HH.out,VH,VH⟩;have HY:Hid ((.bool true:Value)= .bool (((i:Int)+64* (ti+1)) !=0)):=Y0 Y8;clear m0 m1 m3 m4 m5 m6 m7 m8 m9 hm hl hk hc hf hr e0 ht hne;go_wp2_with fail;go_ret2;rw[HE.out];refine ⟨rfl,Vh.put ⟨H.out.ok.more HN.out,H.out.obj,H.out.row⟩ hlt _ HK.out ?_ ?_,?_⟩
    ·have e: ∀(W:World) o v,(W.setCell ⟨gt,o,O⟩ v).heap[T]?=W.heap[T]?:=fun W o v=>zm H.out.ne;rw[e,e,e,e,e,e,e,e,e]
    ·have hy:gL ⟨ti+1,false,⟨(i:Int)+64* (ti+1),1,home,0,0,false,false⟩⟩= [E J (ti+1), .bool true, .bool false,E J ((i:Int)+64* (ti+1)),E Z 1,E J home,E J 0,E J 0, .bool false, .bool false]:=by
      unfold gL;rw[←HY.out]
     rw[hy];exact HM.out
    ·iterate 9 (refine Keeps.setCell (X:=fun b=>b=gt) (p:=⟨gt,_,O⟩) ?_ rfl _)
     exact Keeps.refl _ _
   ·have x1:wr.cell? ⟨gt,i*10+1,O⟩=V (.bool true):=by
     rw[hc 1 Y1];simp[gL,hz]
    have aP:Hid (∀j,j<i+1→(tAt l j).t.id≠0):=Y0 fun j hj=>by
     rcases Nat.lt_succ_iff_lt_or_eq.1 hj with h1|h1
     ·exact HB.out j h1
     ·rw[h1,hr];exact hz
    exact zwh
  ·obtain rfl:i=64:=Y1;have e0:gF l home=none:=by
    unfold gF;rw[zq4 fun j hj=>HB.out j (by rw[←H.out.ok.len];exact hj)]
   have HE:=Y0 e0;clear e0;go_wp2_with fail;refine (HF.out _ _).mono ?_;rintro e w2 ⟨⟨ev,rfl,hev⟩,hb⟩;go_wp2;go_ret2;rw[HE.out];exact ⟨⟨_,rfl,hev⟩,H.out.below hb,Keeps.zO hb⟩
end Kn
end Go.Proofs.YtdlpmnmenhojfaaGreatDoor
