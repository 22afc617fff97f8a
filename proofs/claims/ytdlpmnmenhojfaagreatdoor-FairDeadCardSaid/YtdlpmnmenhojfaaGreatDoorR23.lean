/- Part 23 of what the proof stands on: AsmLabel. -/
import Derived.Test.YtdlpmnmenhojfaaGreatDoorR18
set_option linter.unusedVariables false
set_option maxHeartbeats 40000000
set_option maxRecDepth 100000
variable {zP:Prop}
namespace Go.Proofs.YtdlpmnmenhojfaaGreatDoor
open Go.IntKind renaming i64->Z,u64->J
open Go.Value renaming int->E,pointer->Y,slice->Sl
open Option renaming none->O,some->V
open Go.Obj renaming cells->Ce
open Go.Ending renaming returned->Rt
open Go.Proofs.Tryz renaming prog->Tp
namespace Asm
open Go.RowKit Go.Maps
theorem zpy:Keyed Tp 9:=string_keyed Tryz.underlying9
theorem zjN (w:World):(zeroValue 3).run Tp w= .ok (E Z 0) w:=Y4
theorem wf_i64 {k:Int} (h: -9223372036854775808≤k∧k≤9223372036854775807):(Lit.int Z k).wf=true:=WalkArith.wf_i64 Y1
theorem zjF {a b:Str} (h:a≠b):(Lit.string a)≠Lit.string b:=fun e=>h Y18
theorem a58.Q95 (h:zP:=by
 rw[e1] at hrun;refine ⟨c,hrun,fun j hj=>?_⟩;have:=congrArg Prod.fst hc;rw[show (D.atKey (Lit.string s.data.toList) (DataW.lit (Lit.int Z 0)))=_ from e2 j hj] at this;simp at this;exact this.symm):zP:=h
open a58 in
theorem kD.look {w:World} {mb:Nat} {f:Str→Option Nat} {N:Nat} (h:kD w mb f N) (s:ByteArray) (hs:s.size≤maxLen):
  ∃c:Int,(Instr.lookup 196 (.map (some mb)) (.string s) true).run Tp w= .ok (.tuple #[E Z c, .bool (f s.data.toList).isSome]) w∧ ∀j,f s.data.toList=some j→c=j:=by
 exact J95
theorem a59.Q95 (h:zP:=by
 rw[hn] at e1;rw[e1] at hrun;have:=congrArg Prod.fst hc;rw[Maps.atKey_of_not_has e1] at this;simp at this;rw[hrun,←this];rfl):zP:=h
open a59 in
theorem kD.zrv {w:World} {mb:Nat} {f:Str→Option Nat} {N:Nat} (h:kD w mb f N) (s:ByteArray) (hs:s.size≤maxLen) (hn:f s.data.toList=none):
  (Instr.lookup 196 (.map (some mb)) (.string s) true).run Tp w= .ok (.tuple #[E Z 0, .bool false]) w:=by
 exact J95
theorem kD.store {w:World} {mb:Nat} {f:Str→Option Nat} {N:Nat} (h:kD w mb f N) (hN:N<maxLen) (s:ByteArray) (hs:s.size≤maxLen) {i:Nat} (hi:(Lit.int Z (i:Int)).wf=true) {f':Str→Option Nat} (hf: ∀k,f' k=if k=s.data.toList then some i else f k):
  ∃w',(Instr.mapUpdate 196 (.map (some mb)) (.string s) (E Z i)).run Tp w= .ok () w'∧kD w' mb f' (N+1)∧w.mapTurned w' mb:=by
 obtain ⟨D,n,h1,h2,h3⟩:=h;obtain ⟨w',hrun,ho,ht⟩:=h1.store zpy Tryz.underlying196 (Nat.lt_of_le_of_lt h2 hN) (WideMaps.keyOf_string_mk Tryz.underlying9 hs) (plainElem_int Tryz.underlying3 hi);refine ⟨w',hrun,⟨_,n+1,ho,by omega,fun k'=>?_⟩,ht⟩;rw[hf k'];by_cases e:k'=s.data.toList
 ·rw[e,if_pos rfl];refine ⟨by rw[has_put_same (k:=Lit.string s.data.toList) h1.isMap trivial];rfl,fun j hj=>?_⟩;rw[atKey_put_same (k:=Lit.string s.data.toList) h1.isMap trivial];have:=Option.some.inj hj;subst this;rfl
 ·have:=h3 k';rw[has_put_other (zjF e),atKey_put_other (zjF e)];rw[if_neg e];exact this
theorem zof {l:List (Str×Nat)} {t:Str} {p:Nat} (h:zaF l t=none) (k:Str):zaF (l++ [(t,p)]) k=if k=t then some l.length else zaF l k:=by
 unfold zaF at*;rw[List.findIdx?_append];by_cases e:k=t
 ·subst e;rw[if_pos rfl,h];simp
 ·rw[if_neg e];have e2:(t==k)=false:=by simpa using fun h=>e h.symm
  have e3:List.findIdx? (fun q:Str×Nat=>q.1==k) [(t,p)]=none:=by simp[List.findIdx?_cons,e2]
  rw[e3];cases List.findIdx? (fun q:Str×Nat=>q.1==k) l<;>rfl
theorem Jf (l:List (Str×Nat)) (x:Str×Nat):ZO (l++ [x])=ZO l++ [vD x.1,E Z x.2]:=by simp[ZO]
theorem zaj (l:List Nat) (x:Nat):kW (l++ [x])=kW l++ [E Z (x:Int)]:=by simp[kW]
theorem zlr:(Tryz.prog.info? 204).map (fun i=>(i.zero,i.size,i.bytes))=V (some (.agg #[.string ⟨#[]⟩,E Z 0]),2,24):=Y4
theorem zaI:(Tryz.prog.info? 3).map (fun i=>(i.zero,i.size,i.bytes))=V (some (E Z 0),1,8):=Y4
theorem zqz (s:ByteArray) (h1:(1:Int)≤(s.size:Int)) (hm:s.size≤100000) (w:World):
  (Instr.slice 9 (.string s) none (some (E Z ((s.size:Int) - 1))) none).run Tp w= .ok (.string (s.extract 0 (s.size - 1))) w:=by
 have e1:((s.size:Int) - 1).toNat=s.size - 1:=Y1;have h2:(0:Int)≤(s.size:Int) - 1:=Y1;have h3:(s.size:Int) - 1≤(s.size:Int):=Y1;have hb: ∀code,(Instr.sliceBound (E Z ((s.size:Int) - 1)) s.size code).run Tp w= .ok (s.size - 1) w:=by
  intro code;rw[run_sliceBound _ _ _ _ _ h2 h3,e1]
 simp[Instr.slice,run_underlying Tryz.underlying9,Instr.sliceBounds,hb,go_sem]
theorem a60.Q99 (h:zP:=by
 obtain ⟨g,cap,rfl,hg1,hg2,hcap,hc⟩:=zhL hr Y7;have HB:=Y0 hb;simp only[List.length_cons,List.length_nil,Nat.zero_add] at hcap ⊢;exact zv8):zP:=h
theorem a60.zvY (h:zP:=by
 have cZ:W0.data.toList=w0:=by rw[hW0]
 obtain ⟨m,hm⟩: ∃m,W0.size=m+1:=⟨W0.size - 1,by omega⟩;exact zw3):zP:=h
theorem a60.zwS (h:zP:=by
 have h6:Rd (w5.alloc (Ce #[E Z (i:Int)] 3)) R mb rb (.slice Ac st.code.length cc) (.slice A' (st.labels.length+1) c') (.slice An st.lines.length cn) vw { st with labels:=st.labels++ [(w0.dropLast,st.code.length)]}:=R5.below ((Below.refl _ _).alloc (Nat.le_refl _) _);have E6:=Y0 h6.lines;have N6:Hid (∀j u,([E Z (i:Int)]:List Value)[j]?=some u→((w5.alloc (Ce #[E Z (i:Int)] 3))).cell? ((⟨w5.heap.size,0,O⟩:Addr).add j)=some u):=Y0 (by
  intro j u hu
  rw[Addr.add_lit,Nat.zero_add]
  exact (World.cell?_alloc_at _ _ _ _ rfl).trans Y23)
 have O6:Hid (∀u∈([E Z (i:Int)]:List Value),u.oneCell'=true):=Y0 (by
  intro u hu
  simp at hu
  subst hu;rfl)
 have IU:=Y0 (show st.lines.length+1≤maxLen by unfold maxLen;omega);have IV:=Y0 (show (st.lines.length+1)*8≤140737488355328 by omega);have IW:=Y0 (show rb≤((w5.alloc (Ce #[E Z (i:Int)] 3))).heap.size by simp;omega);have Iz:Hid (some R≠(Value.slice An st.lines.length cn).ownBlock):=Y0 (own_ne h6.lines h6.vO Y2);have wH:Hid (∀v' w2,w2.ownsRow rb 3 1 v' (st.lines.length+1) (kW st.lines++ [E Z (i:Int)])→((w5.alloc (Ce #[E Z (i:Int)] 3))).grownBy w2 (Value.slice An st.lines.length cn).ownBlock→(v'.ownBlock=(Value.slice An st.lines.length cn).ownBlock∨v'.ownBlock=V ((w5.alloc (Ce #[E Z (i:Int)] 3))).heap.size)→
   GL w R mb rb (.slice Ac st.code.length cc) (.slice Al st.labels.length cl) (.slice An st.lines.length cn) vw { st with labels:=st.labels++ [(w0.dropLast,st.code.length)],lines:=st.lines++ [i]} (.returned .nilIface) (w2.setCell ⟨R,2,O⟩ v')):=Y0 (fun v' w2 hr hg hnew=>by
  have hr2:w2.ownsRow rb 3 1 v' (st.lines++ [i]).length (kW (st.lines++ [i])):=by
   rw[zaj,List.length_append];exact hr
  have hadd:=h6.Jy i hg hr2
  refine ⟨rfl,_,_,v',_,hadd,((K5.alloc _).grown hg (fun k e=>Or.inr (Or.inr (Or.inr (Or.inr (Or.inl e)))))).setCell (p:=⟨R,2,O⟩) (Or.inl rfl) _,fun k hk=>?_⟩
  rcases hk with e|e|e|e|e|e
  ·exact Or.inl (Or.inl e)
  ·exact Or.inl (Or.inr (Or.inl e))
  ·exact Or.inl (Or.inr (Or.inr (Or.inl e)))
  ·rcases O5 k e with e|e
   ·exact Or.inl (Or.inr (Or.inr (Or.inr (Or.inl e))))
   ·exact Or.inr e
  ·rcases hnew with e2|e2
   ·exact Or.inl (Or.inr (Or.inr (Or.inr (Or.inr (Or.inl (e2▸e))))))
   ·right
    rw[e2] at e
    have h2:((w5.alloc (Ce #[E Z (i:Int)] 3))).heap.size=k:=Option.some.inj e
    simp at h2
    omega
  ·exact Or.inl (Or.inr (Or.inr (Or.inr (Or.inr (Or.inr e))))))
 have FV:Hid (∀w2:World,((w5.alloc (Ce #[E Z (i:Int)] 3))).grownBy w2 (Value.slice An st.lines.length cn).ownBlock→w2.cell? ⟨R,2,O⟩=V (.slice An st.lines.length cn)∧w2.frozen? ⟨R,2,O⟩=false):=Y0 (fun w2 hg=>by
  have hb:=(hg.block R h6.lt Iz.out).trans h6.obj
  exact ⟨by simp[World.cell?,hb],by simp[World.frozen?,hb]⟩)
 clear R5 K5 O5 h6 hs5;go_wp2_with (at_builtin;(refine wpList_append_own_at _ rfl _ _ 76 rfl rb 3 ii _ 1 8 Tryz.underlying76 hii hzi hsi hbi rfl Y2 _ _ _ rfl E6.out ⟨w5.heap.size,0,O⟩ 1 1 [E Z (i:Int)] rfl rfl N6.out O6.out IU.out IV.out IW.out ?_;intro v6 w6 hown hgrow _ hnew;obtain ⟨A6,c6,rfl⟩:=zn hown;have tt:=FV.out w6 hgrow;have t0:=tt.1;have t2:=tt.2;have HF:=Y0 (wH.out _ _ hown hgrow hnew);clear hown hgrow hnew tt));go_ret;exact HF.out):zP:=h
theorem a60.zyL (h:zP:=by
 have xJ:T.size≤100000:=by
  rw[←zL,fA,List.length_dropLast];omega
 have rX:(m:Int)≤100000:=Y1;have hl:W0.size - 1<W0.size:=Y1;have nL:(W0.size:Int)≤100000:=Y1;have sZ:(1:Int)≤(W0.size:Int):=Y1;have t1:(((W0[W0.size - 1]'hl).toNat:Int)==58)=true:=by
  exact zwb
 have R2:=lK.out.below hb;have iQ:=Y0 (JZ T);rw[fA,hnm] at iQ;have hlk: ∀nq,(Instr.lookup 196 (.map (some mb)) (.string T) true).run Tp (w2.drewN nq)= .ok (.tuple #[E Z 0, .bool false]) (w2.drewN nq):=fun nq=>kD.zrv (w:=w2.drewN nq) (R2.map.of_block rfl) T Y24 (by rw[fA];exact hno);have dX:=Y0 (fun (wa:World) (h:wa.heap=w2.heap)=>kD.store (w:=wa) (R2.map.of_block (by rw[h])) Y24 T Y24 (i:=st.labels.length) (wf_i64 Y1) (f':=zaF (st.labels++ [(w0.dropLast,st.code.length)])) (fun k=>by rw[fA];exact zof hno k));have hsl:=zqz W0 sZ Y1;have ng:=Y0 fA;have HMe:=Y0 hm;have dK:=Y0 R2;obtain ⟨r0,r1,r2,r3,r4,rf⟩:=R2.cell;obtain ⟨Al,cl,rfl⟩:=zn R2.labels;obtain ⟨Ac,cc,rfl⟩:=zn R2.code;obtain ⟨An,cn,rfl⟩:=zn R2.lines;clear hr hb hc c0 hz0 hW0 cZ fA hl58 hnm hno R2 hm;subst hT;go_wp2_with fail;go_quiet (fail)
 go_wp2_with fail;refine (iQ.out _ Y1).mono ?_;rintro e w' ⟨rfl,rfl⟩;go_wp2_with fail;have s0:(w2.drewN nq).cell? ⟨g,0,O⟩=V (.string W0):=c0';have s1:(w2.drewN nq).cell? ⟨R,1,O⟩=V (.slice Al st.labels.length cl):=r1;have s3:(w2.drewN nq).cell? ⟨R,3,O⟩=V (.map (some mb)):=r3;have Eo:(w2.drewN nq).heap=w2.heap:=rfl;have hqo:(w2.drewN nq).os=w2.os:=rfl;have MC:(w2.drewN nq).tape=w2.tape:=rfl;have ME:(w2.drewN nq).output=w2.output:=rfl;generalize w2.drewN nq=wq at s0 s1 s3 Eo hqo MC ME ⊢;obtain ⟨w3,hst,eP,hturn⟩:=dX.out wq.drew (by exact Eo);have Ak:wq.drew.grownBy w3 (some mb):=hturn.grown;have hos:w3.os=w2.os:=Ak.os.trans hqo;have htp:w3.tape=w2.tape:=Ak.tape.trans MC;have hou:w3.output=w2.output:=Ak.output.trans ME;clear hqo MC ME;have Ew:wq.heap.size=w2.heap.size:=by rw[Eo]
 have hs2:w2.heap.size≤w3.heap.size:=by rw[←Ew];exact Ak.size
 have hb3: ∀k,k<w2.heap.size→k≠mb→w3.heap[k]?=w2.heap[k]?:=fun k hk hne=>(Ak.block k (by show k<wq.heap.size;omega) (fun e=>hne (Option.some.inj e))).trans (by show wq.heap[k]?=_;rw[Eo]);have hgm:g≠mb:=by
  have:=lK.out.map.lt;omega
 have iy:w3.heap[R]?=_:=(hb3 R dK.out.lt (zH dK.out.vO dK.out.zaH Y2)).trans dK.out.obj;have hcode3:=za (w':=w3) dK.out.code fun k hk=>hb3 k (dK.out.code.lt k hk).2 (zH (zI dK.out.code hk) dK.out.zaH Y2);have pV:=za (w':=w3) dK.out.labels fun k hk=>hb3 k (dK.out.labels.lt k hk).2 (zH (zI dK.out.labels hk) dK.out.zaH Y2);have pW:=za (w':=w3) dK.out.lines fun k hk=>hb3 k (dK.out.lines.lt k hk).2 (zH (zI dK.out.lines hk) dK.out.zaH Y2);have ql:=za (w':=w3) dK.out.wants fun k hk=>hb3 k (dK.out.wants.lt k hk).2 (zH (zI dK.out.wants hk) dK.out.zaH Y2);have d0:w3.cell? ⟨g,0,O⟩=V (.string W0):=(World.cell?_of_block (a:=⟨g,0,O⟩) (hb3 g hg2 hgm)).trans c0'
 have q0:w3.cell? ⟨R,0,O⟩=V (.slice Ac st.code.length cc):=by simp[World.cell?,iy]
 have q1:w3.cell? ⟨R,1,O⟩=V (.slice Al st.labels.length cl):=by simp[World.cell?,iy]
 have qf: ∀o,w3.frozen? ⟨R,o,O⟩=false:=fun o=>by simp[World.frozen?,iy]
 have xG:R<w3.heap.size:=(Array.getElem?_eq_some_iff.1 iy).1;have K3:Keeps (GJ R mb (.slice Ac st.code.length cc) (.slice Al st.labels.length cl) (.slice An st.lines.length cn) vw) w w3:=(Keeps.zO HB.out).trans (ay:=fun k=>k=mb) ⟨hos,htp,hou,hs2,fun k hk hne=>hb3 k hk hne⟩ (fun k e=>Or.inl (Or.inr (Or.inl e)));have hA:Below w3.heap.size w3 ((w3.alloc (Ce #[.string (W0.extract 0 (W0.size - 1)),E Z (st.code.length:Int)] 204)).drew):=⟨rfl,rfl,rfl,by simp[World.drew],fun k hk=>((Below.refl _ w3).alloc (Nat.le_refl _) _).block k hk⟩;have mq:(((w3.alloc (Ce #[.string (W0.extract 0 (W0.size - 1)),E Z (st.code.length:Int)] 204)).drew)).heap[R]?=_:=(hA.block R xG).trans iy
 have mg:=za (w':=((w3.alloc (Ce #[.string (W0.extract 0 (W0.size - 1)),E Z (st.code.length:Int)] 204)).drew)) pV fun k hk=>hA.block k (pV.lt k hk).2;have uL:=kD.of_block (w':=((w3.alloc (Ce #[.string (W0.extract 0 (W0.size - 1)),E Z (st.code.length:Int)] 204)).drew)) eP (hA.block mb eP.lt);have K4:Keeps (GJ R mb (.slice Ac st.code.length cc) (.slice Al st.labels.length cl) (.slice An st.lines.length cn) vw) w ((w3.alloc (Ce #[.string (W0.extract 0 (W0.size - 1)),E Z (st.code.length:Int)] 204)).drew):=(K3.alloc _).drew;have E0:=Y0 mg;obtain ⟨iw,hiw,qO,hsw,hbw⟩:=info_parts zlr;obtain ⟨ii,hii,hzi,hsi,hbi⟩:=info_parts zaI
 have N1:Hid (∀j u,([.string (W0.extract 0 (W0.size - 1)),E Z (st.code.length:Int)]:List Value)[j]?=some u→(((w3.alloc (Ce #[.string (W0.extract 0 (W0.size - 1)),E Z (st.code.length:Int)] 204)).drew)).cell? ((⟨w3.heap.size,0,O⟩:Addr).add j)=some u):=Y0 (by
  intro j u hu
  rw[Addr.add_lit,Nat.zero_add]
  exact (World.cell?_alloc_at _ _ _ _ rfl).trans Y23)
 have O1:Hid (∀u∈([.string (W0.extract 0 (W0.size - 1)),E Z (st.code.length:Int)]:List Value),u.oneCell'=true):=Y0 (by
  intro u hu
  simp at hu
  rcases hu with rfl|rfl<;>rfl)
 have M1:=Y0 (show st.labels.length+1≤maxLen by unfold maxLen;omega);have M2:=Y0 (show (st.labels.length+1)*24≤140737488355328 by omega);have M3:=Y0 (show rb≤(((w3.alloc (Ce #[.string (W0.extract 0 (W0.size - 1)),E Z (st.code.length:Int)] 204)).drew)).heap.size by
  have:=HB.out.size
  show rb≤(w3.alloc _).heap.size;simp;omega)
 have HV:Hid (some R≠(Value.slice Al st.labels.length cl).ownBlock):=Y0 (own_ne mg (Vj mq) Y2);have aD:Hid (∀v' w4,w4.ownsRow rb 204 2 v' (st.labels.length+1) (ZO st.labels++ [.string (W0.extract 0 (W0.size - 1)),E Z (st.code.length:Int)])→(((w3.alloc (Ce #[.string (W0.extract 0 (W0.size - 1)),E Z (st.code.length:Int)] 204)).drew)).grownBy w4 (Value.slice Al st.labels.length cl).ownBlock→(v'.ownBlock=(Value.slice Al st.labels.length cl).ownBlock∨v'.ownBlock=V (((w3.alloc (Ce #[.string (W0.extract 0 (W0.size - 1)),E Z (st.code.length:Int)] 204)).drew)).heap.size)→
   Rd (w4.setCell ⟨R,1,O⟩ v') R mb rb (.slice Ac st.code.length cc) v' (.slice An st.lines.length cn) vw { st with labels:=st.labels++ [(w0.dropLast,st.code.length)]}∧Keeps (GJ R mb (.slice Ac st.code.length cc) (.slice Al st.labels.length cl) (.slice An st.lines.length cn) vw) w (w4.setCell ⟨R,1,O⟩ v')∧ ∀k,v'.ownBlock=some k→(Value.slice Al st.labels.length cl).ownBlock=some k∨w.heap.size≤k):=Y0 (fun v' w4 hr hg hnew=>by
  have eV:vD w0.dropLast= .string (W0.extract 0 (W0.size - 1)):=by
   rw[←ng.out];rfl
  have hr2:w4.ownsRow rb 204 2 v' (st.labels++ [(w0.dropLast,st.code.length)]).length (ZO (st.labels++ [(w0.dropLast,st.code.length)])):=by
   rw[Jf,List.length_append,eV];exact hr
  have hadd:=Rd.jA mq (za (w':=((w3.alloc (Ce #[.string (W0.extract 0 (W0.size - 1)),E Z (st.code.length:Int)] 204)).drew)) hcode3 fun k hk=>hA.block k (hcode3.lt k hk).2) mg (za (w':=((w3.alloc (Ce #[.string (W0.extract 0 (W0.size - 1)),E Z (st.code.length:Int)] 204)).drew)) pW fun k hk=>hA.block k (pW.lt k hk).2) (za (w':=((w3.alloc (Ce #[.string (W0.extract 0 (W0.size - 1)),E Z (st.code.length:Int)] 204)).drew)) ql fun k hk=>hA.block k (ql.lt k hk).2) (w0.dropLast,st.code.length) (by simpa using uL) hg hr2
  refine ⟨hadd,(K4.grown hg (fun k e=>Or.inr (Or.inr (Or.inr (Or.inl e))))).setCell (p:=⟨R,1,O⟩) (Or.inl rfl) _,fun k hk=>?_⟩
  rcases hnew with e2|e2
  ·exact Or.inl (e2▸hk)
  ·right
   rw[e2] at hk
   have h2:(w3.alloc (Ce #[.string (W0.extract 0 (W0.size - 1)),E Z (st.code.length:Int)] 204)).heap.size=k:=Option.some.inj hk
   have:=HB.out.size
   simp at h2
   omega)
 have dD:Hid (∀w4:World,(((w3.alloc (Ce #[.string (W0.extract 0 (W0.size - 1)),E Z (st.code.length:Int)] 204)).drew)).grownBy w4 (Value.slice Al st.labels.length cl).ownBlock→w4.cell? ⟨R,1,O⟩=V (.slice Al st.labels.length cl)∧w4.frozen? ⟨R,1,O⟩=false):=Y0 (fun w4 hg=>by
  have hb:=(hg.block R (Nat.lt_of_lt_of_le xG hA.size) HV.out).trans mq
  exact ⟨by simp[World.cell?,hb],by simp[World.frozen?,hb]⟩)
 have QS:=Y0 hs2;clear eP hturn Ak Ew Eo hos htp hou hb3 iy hcode3 pV pW ql K3 hA mq mg uL K4 hs2 hgm;go_still_tail 14,Y4;change wpList _ _ _ _ _ wq.drew;generalize wq.drew=wa at hst ⊢;go_upto_region 10 with fail;go_cut [7] (fun _ wx=>Hid (∃A' c',Rd wx R mb rb (.slice Ac st.code.length cc) (.slice A' (st.labels.length+1) c') (.slice An st.lines.length cn) vw { st with labels:=st.labels++ [(w0.dropLast,st.code.length)]}∧Keeps (GJ R mb (.slice Ac st.code.length cc) (.slice Al st.labels.length cl) (.slice An st.lines.length cn) vw) w wx∧ ∀k,(Value.slice A' (st.labels.length+1) c').ownBlock=some k→(Value.slice Al st.labels.length cl).ownBlock=some k∨w.heap.size≤k));case first=>
  go_wp2_with fail;go_region_law (first|(refine Zw _ rfl (.tmp 82) (.tmp 94) 114 rfl rb 204 iw _ 2 24 Tryz.underlying114 hiw qO hsw hbw rfl Y2 (.slice Al st.labels.length cl) st.labels.length (ZO st.labels) Y20 E0.out ⟨w3.heap.size,0,O⟩ 1 1 [.string (W0.extract 0 (W0.size - 1)),E Z (st.code.length:Int)] Y20 rfl N1.out O1.out M1.out M2.out M3.out ?_;intro v' w4 hown' hgrow hnew;obtain ⟨A',c',rfl⟩:=zn hown';have tt:=dD.out w4 hgrow;have t0:=tt.1;have t2:=tt.2;have HF:=Y0 (aD.out _ _ hown' hgrow hnew);clear hown' hgrow hnew tt));all_goals
   go_wp2_with fail
   go_meet
   exact Y0 ⟨_,_,HF.out⟩
 case rest=>
  clear q0 q1 qf d0 s0 s1 s3 aD dD HV E0 N1 O1 M1 M2 M3 QS xG;exact zwq):zP:=h
open a60 in
theorem zjj {w:World} {R mb rb:Nat} {vc vl vn vw:Value} {st:St} (hR:Rd w R mb rb vc vl vn vw st) (hrb:rb≤w.heap.size) (s:ByteArray) (i:Nat) (hs:s.size≤100000) (hsemi: ∀c∈s.data.toList,c≠59) {w0:Str} (hw:ZN s.data.toList= [w0]) (hw0:0<w0.length∧w0.length≤100000) (hl58:w0.getLast?=some 58) (hnm:ZC w0.dropLast=true) (hno:zaF st.labels w0.dropLast=none) (hln:st.labels.length≤90000) (hli:st.lines.length≤90000):
  Calls Tp 77 #[Y (V ⟨R,0,O⟩), .string s,E Z i] w (GL w R mb rb vc vl vn vw { st with labels:=st.labels++ [(w0.dropLast,st.code.length)],lines:=st.lines++ [i]}):=by
 have HW:=Y0 (JQ s w hs hsemi);have HN:=Y0 hw;have lK:=Y0 hR;clear hs hsemi hw hR;exact J99
end Asm
end Go.Proofs.YtdlpmnmenhojfaaGreatDoor
