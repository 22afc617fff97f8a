/- Part 18 of what the proof stands on: AsmLine. -/
import Derived.Test.YtdlpmnmenhojfaaGreatDoorR09
import Derived.Test.YtdlpmnmenhojfaaGreatDoorR13
set_option linter.unusedVariables false
set_option maxHeartbeats 40000000
set_option maxRecDepth 100000
variable {zP:Prop}
namespace Go.Proofs.YtdlpmnmenhojfaaGreatDoor
open Go.IntKind renaming i64->Z,u64->J
open Go.Value renaming int->E,pointer->Y,slice->Sl
open Option renaming none->O,some->V
open Go.Obj renaming cells->Ce
open Go.Ending renaming returned->Rt
open Go.Proofs.Tryz renaming prog->Tp
namespace Asm
open Go.RowKit Go.Maps
theorem zhL {w:World} {B:Nat} {v:Value} {D:List Str} (h:bY w B v D) (h0:0<D.length): ∃g c,v=Sl (V ⟨g,0,O⟩) D.length c∧B≤g∧g<w.heap.size∧D.length≤c∧ ∀k (hk:k<D.length),w.cell? ⟨g,k,O⟩=V (vD D[k]):=by
 have h':w.ownsRow B 9 1 v D.length (D.map vD):=h;rcases h'.2 with ⟨_,h2⟩ |⟨g,cap,cur,hv,hg,hh,hn,_⟩
 ·omega
 ·rw[hv] at h';refine ⟨g,cap,hv,hg,(h'.lt g rfl).2,hn,fun k hk=>?_⟩;have:=h'.cellAt k Y1;rw[List.getElem?_map,List.getElem?_eq_getElem hk] at this;exact this
theorem a50.Q99 (h:zP:=by
 obtain ⟨A,c,hv⟩:=zn hr;subst hv;clear hr;simp only[List.length_nil];go_wp2;go_ret;exact ⟨rfl,hb⟩):zP:=h
open a50 in
theorem zk2 (R:Nat) (s:ByteArray) (i:Nat) (w:World) (hs:s.size≤100000) (hsemi: ∀c∈s.data.toList,c≠59) (h:ZN s.data.toList= []):
  Calls Tp 77 #[Y (V ⟨R,0,O⟩), .string s,E Z i] w fun e w'=>e=Rt .nilIface∧Below w.heap.size w w':=by
 have HW:=Y0 (JQ s w hs hsemi);have HN:=Y0 h;clear hs hsemi h;exact J99
def GL (w:World) (R mb rb:Nat) (vc vl vn vw:Value) (st':St) (e:Ending) (w':World):Prop:=
 e=Rt .nilIface∧ ∃mG mH mJ aN,Rd w' R mb rb mG mH mJ aN st'∧Keeps (GJ R mb vc vl vn vw) w w'∧ ∀k,GJ R mb mG mH mJ aN k→GJ R mb vc vl vn vw k∨w.heap.size≤k
theorem zo9 (k0 k1 k2:Int) {l:List Int} (h: [k0,k1,k2].takeWhile (fun k=>decide (k≠0))=l):l.length≤3∧(∀j (hj:j<l.length),l[j]= [k0,k1,k2].getD j 0∧l[j]≠0)∧(l.length<3→ [k0,k1,k2].getD l.length 0=0):=by
 subst h;by_cases h0:k0=0
 ·simp[h0]
 ·by_cases h1:k1=0
  ·simp[h0,h1]
  ·by_cases h2:k2=0
   ·simp[h0,h1,h2]
    intro j hj
    match j,hj with
    |0,_=>exact ⟨rfl,h0⟩
    |1,_=>exact ⟨rfl,h1⟩
   ·simp[h0,h1,h2]
    intro j hj
    match j,hj with
    |0,_=>exact ⟨rfl,h0⟩
    |1,_=>exact ⟨rfl,h1⟩
    |2,_=>exact ⟨rfl,h2⟩
theorem zmB {y yF:zx} {ks:List Int} {ws:List Str} {lr:List Str} {j:Nat} (h:ZA y (ks.drop j) (ws.drop j)=V (yF,lr)) (hj:j<ks.length):
  ∃(hw:j<ws.length) (y':zx) (o:Option Str) (qy:List Str),KZ y ks[j] ws[j]=V (y',o)∧ZA y' (ks.drop (j+1)) (ws.drop (j+1))=V (yF,qy)∧lr=o.toList++qy:=by
 rw[List.drop_eq_getElem_cons hj] at h;by_cases hw:j<ws.length
 ·rw[List.drop_eq_getElem_cons hw] at h
  simp only[ZA] at h
  cases ho:KZ y ks[j] ws[j] with
  |none=>rw[ho] at h;cases h
  |some p=>
   obtain ⟨y',o⟩:=p;rw[ho] at h;obtain ⟨⟨y2,l2⟩,h2,e⟩:=Option.map_eq_some_iff.1 h;injection e with e1 e2
   subst e1;exact ⟨hw,y',o,l2,ho,h2,e2.symm⟩
 ·have e:ws.drop j= []:=List.drop_of_length_le Y1;rw[e] at h;have h2:(none:Option (zx×List Str))=V (yF,lr):=h;cases h2
theorem zr1 {p:Prop} [Decidable p] {a b:List Int} {k:Int} (h:k∈if p then a else b):k∈a∨k∈b:=by
 split at h
 ·exact Or.inl h
 ·exact Or.inr h
theorem zao (op:Int): ∀k∈Zk op,1≤k∧k≤9:=by
 intro k hk;unfold Zk at hk;repeat (rcases zr1 hk with hk|hk;·simp at hk;omega)
 simp at hk
def znI (W5:World) (R mb rb X i:Nat) (vc vl vn vw:Value) (st:St) (ks:List Int) (ws:List Str) (yF:zx) (lF:List Str) (j:Nat) (wr:World):Prop:=
 ∃y l lr aN,ZA y (ks.drop j) (ws.drop j)=V (yF,lr)∧lF=l++lr∧l.length≤j∧Rd wr R mb rb vc vl vn aN { st with wants:=st.wants++l.map (fun t=>(st.code.length,i,t))}∧zT wr X y∧Keeps (fun k=>k=X∨GJ R mb vc vl vn vw k) W5 wr∧(∀k,aN.ownBlock=some k→vw.ownBlock=some k∨W5.heap.size≤k)
section
variable {W5 wr w':World} {R mb rb X i:Nat} {vc vl vn vw aN:Value} {st:St} {ks:List Int} {ws:List Str} {yF y':zx} {lF l qy:List Str} {o:Option Str} {j:Nat} {e:Ending}
theorem zpa (ho: ∀k,aN.ownBlock=some k→vw.ownBlock=some k∨W5.heap.size≤k) {k:Nat} (h:GJ R mb vc vl vn aN k):GJ R mb vc vl vn vw k∨W5.heap.size≤k:=by
 rcases h with h|h|h|h|h|h
 ·exact Or.inl (Or.inl h)
 ·exact Or.inl (Or.inr (Or.inl h))
 ·exact Or.inl (Or.inr (Or.inr (Or.inl h)))
 ·exact Or.inl (Or.inr (Or.inr (Or.inr (Or.inl h))))
 ·exact Or.inl (Or.inr (Or.inr (Or.inr (Or.inr (Or.inl h)))))
 ·rcases ho k h with h|h
  ·exact Or.inl (Or.inr (Or.inr (Or.inr (Or.inr (Or.inr h)))))
  ·exact Or.inr h
theorem zm9 (hl:l.length≤j) (hk:Keeps (fun k=>k=X∨GJ R mb vc vl vn vw k) W5 wr) (ho: ∀k,aN.ownBlock=some k→vw.ownBlock=some k∨W5.heap.size≤k) (h2:ZA y' (ks.drop (j+1)) (ws.drop (j+1))=V (yF,qy)) (hF:lF=l++(o.toList++qy))
  (h:VB wr R mb rb vc vl vn aN { st with wants:=st.wants++l.map (fun t=>(st.code.length,i,t))} X y' o i e w'):e=Rt .nilIface∧znI W5 R mb rb X i vc vl vn vw st ks ws yF lF (j+1) w':=by
 obtain ⟨he,hy,MR,hr,hk2,ho2⟩:=h;refine ⟨he,y',l++o.toList,qy,MR,h2,by rw[hF,List.append_assoc],?_,?_,hy,?_,?_⟩
 ·have:o.toList.length≤1:=by cases o<;>simp
  simp;omega
 ·have e2:st.wants++(l++o.toList).map (fun t=>(st.code.length,i,t))=(st.wants++l.map (fun t=>(st.code.length,i,t)))++o.toList.map (fun t=>(st.code.length,i,t)):=by rw[List.map_append,List.append_assoc]
  rw[e2];exact hr
 ·refine hk.trans hk2 fun k hh=>?_;rcases hh with hh|hh
  ·exact Or.inl (Or.inl hh)
  ·rcases zpa ho hh with hh|hh
   ·exact Or.inl (Or.inr hh)
   ·exact Or.inr hh
 ·intro k hh;rcases ho2 k hh with hh|hh
  ·exact ho k hh
  ·exact Or.inr (Nat.le_trans hk.size hh)
end
def zjR (W5:World) (R mb rb X i:Nat) (vc vl vn vw:Value) (st:St) (z:zx) (lF:List Str) (wr:World):Prop:=
 ∃aN,Rd wr R mb rb vc vl vn aN { st with wants:=st.wants++lF.map (fun t=>(st.code.length,i,t))}∧zT wr X z∧Keeps (fun k=>k=X∨GJ R mb vc vl vn vw k) W5 wr∧(∀k,aN.ownBlock=some k→vw.ownBlock=some k∨W5.heap.size≤k)
section
variable {W5 wr w':World} {R mb rb X i:Nat} {vc vl vn vw aN:Value} {st:St} {ks:List Int} {ws:List Str} {yF z:zx} {lF:List Str} {q:Nat}
theorem zp7 (h:znI W5 R mb rb X i vc vl vn vw st ks ws yF lF q wr) (hq:q=ks.length):zjR W5 R mb rb X i vc vl vn vw st yF lF wr:=by
 exact zyM
theorem zi5 (h:zjR W5 R mb rb X i vc vl vn vw st yF lF wr) (hX:X<W5.heap.size) (hXn: ¬GJ R mb vc vl vn vw X) (hz:zT w' X z) (hk:Keeps (fun i=>i=X) wr w'):zjR W5 R mb rb X i vc vl vn vw st z lF w':=by
 obtain ⟨aN,h4,h5,h6,h7⟩:=h;refine ⟨aN,h4.keeps hk fun k hk' e=>?_,hz,h6.trans (hk.mono (fun k e=>Or.inl e)) (fun k e=>Or.inl e),h7⟩;subst e;rcases zpa h7 hk' with h|h
 ·exact hXn h
 ·omega
end
theorem zru:(Tryz.prog.info? 111).map (fun i=>(i.zero,i.size,i.bytes))=V (some (.agg #[E Z 0,E Z 0,E Z 0,E Z 0,E J 0,E Z 0,E Z 0]),7,56):=Y4
theorem zaY (l:List zx) (x:zx):Ze (l++ [x])=Ze l++ziW x:=by simp[Ze]
theorem a51.Q39 (h:zP:=by
 have M1:=Y0 (show st.code.length+1≤maxLen by unfold maxLen;omega);have M2:=Y0 (show (st.code.length+1)*56≤140737488355328 by omega);have M3:=Y0 (show rb≤(((wc.alloc (Ce #[E Z z.op,E Z z.a,E Z z.b,E Z z.c,E J z.v,E Z z.m,E Z z.w] 111)).drew)).heap.size by
  have e1:=h6.size
  have e2:=dF.out
  show rb≤(wc.alloc _).heap.size;simp;omega)
 have HV:Hid (some R≠(Value.slice Ac st.code.length cc).ownBlock):=Y0 (own_ne h4.code h4.vO Y2);have aD:Hid (∀v' w2,w2.ownsRow rb 111 7 v' (st.code.length+1) (Ze st.code++ [E Z z.op,E Z z.a,E Z z.b,E Z z.c,E J z.v,E Z z.m,E Z z.w])→(((wc.alloc (Ce #[E Z z.op,E Z z.a,E Z z.b,E Z z.c,E J z.v,E Z z.m,E Z z.w] 111)).drew)).grownBy w2 (Value.slice Ac st.code.length cc).ownBlock→(v'.ownBlock=(Value.slice Ac st.code.length cc).ownBlock∨v'.ownBlock=V (((wc.alloc (Ce #[E Z z.op,E Z z.a,E Z z.b,E Z z.c,E J z.v,E Z z.m,E Z z.w] 111)).drew)).heap.size)→
   GL w R mb rb (.slice Ac st.code.length cc) vl vn vw { st with code:=st.code++ [z],wants:=st.wants++lF.map (fun t=>(st.code.length,i,t))} (.returned .nilIface) (w2.setCell ⟨R,0,O⟩ v')):=Y0 (fun v' w2 hr hg hnew=>by
  have hr2:w2.ownsRow rb 111 7 v' (st.code++ [z]).length (Ze (st.code++ [z])):=by
   rw[zaY,List.length_append];exact hr
  have hadd:=h0.zbn z hg hr2
  have hK2:Keeps (GJ R mb (.slice Ac st.code.length cc) vl vn vw) w (w2.setCell ⟨R,0,O⟩ v'):=(K0.grown hg (fun k e=>Or.inr (Or.inr (Or.inl e)))).setCell (p:=⟨R,0,O⟩) (Or.inl rfl) _
  refine ⟨rfl,v',vl,vn,aN,hadd,hK2,fun k hk=>?_⟩
  have Az:=Fh.out.size
  rcases hk with e|e|e|e|e|e
  ·exact Or.inl (Or.inl e)
  ·exact Or.inl (Or.inr (Or.inl e))
  ·rcases hnew with e2|e2
   ·exact Or.inl (Or.inr (Or.inr (Or.inl (e2▸e))))
   ·right
    rw[e2] at e
    have h2:(wc.alloc (Ce #[E Z z.op,E Z z.a,E Z z.b,E Z z.c,E J z.v,E Z z.m,E Z z.w] 111)).heap.size=k:=Option.some.inj e
    have e1:=h6.size
    simp at h2
    omega
  ·exact Or.inl (Or.inr (Or.inr (Or.inr (Or.inl e))))
  ·exact Or.inl (Or.inr (Or.inr (Or.inr (Or.inr (Or.inl e)))))
  ·rcases h7 k e with e|e
   ·exact Or.inl (Or.inr (Or.inr (Or.inr (Or.inr (Or.inr e)))))
   ·exact Or.inr Y1)
 have dD:Hid (∀w2:World,(((wc.alloc (Ce #[E Z z.op,E Z z.a,E Z z.b,E Z z.c,E J z.v,E Z z.m,E Z z.w] 111)).drew)).grownBy w2 (Value.slice Ac st.code.length cc).ownBlock→w2.cell? ⟨R,0,O⟩=V (.slice Ac st.code.length cc)∧w2.frozen? ⟨R,0,O⟩=false):=Y0 (fun w2 hg=>by
  have hb:=hg.block R h0.lt HV.out
  exact ⟨(World.cell?_of_block (a:=⟨R,0,O⟩) hb).trans h0.cell.1,(World.frozen?_of_block (a:=⟨R,0,O⟩) hb).trans (h0.cell.2.2.2.2.2 0)⟩)
 generalize hy:st.code.length=y at r0 E0 M1 M2 HV aD dD;have IE:=Y0 hy;clear hy;clear h4 h5 h6 h7 h0 K0 hcut qZ q8 hcn hwl;go_wp2_with fail;go_region_law (first|(refine Zw _ rfl (.tmp 191) (.tmp 193) 24 rfl rb 111 iw _ 7 56 Tryz.underlying24 hiw qO hsw hbw rfl Y2 (.slice Ac y cc) y (Ze st.code) Y20 E0.out ⟨wc.heap.size,0,O⟩ 1 1 [E Z z.op,E Z z.a,E Z z.b,E Z z.c,E J z.v,E Z z.m,E Z z.w] Y20 rfl N1.out O1.out M1.out M2.out M3.out ?_;intro v' w2 hown' hgrow hnew;obtain ⟨A',c',rfl⟩:=zn hown';have tt:=dD.out w2 hgrow;have t0:=tt.1;have t1:=tt.2;have HF:=Y0 (aD.out _ _ hown' hgrow hnew);clear hown' hgrow hnew tt));all_goals
  go_wp2
  go_ret
  have ey:=IE.out
  subst ey
  exact HF.out):zP:=h
theorem a51.Q99 (h:zP:=by
 obtain ⟨g,cap,rfl,hg1,hg2,hcap,hc⟩:=zhL hr Y7;have HB:=Y0 hb;have HC:=Y0 hc;simp only[List.length_cons,←hn] at hcap ⊢;exact zv8):zP:=h
theorem a51.zwz (h:zP:=by
 have h0:Rd ((wc.alloc (Ce #[E Z z.op,E Z z.a,E Z z.b,E Z z.c,E J z.v,E Z z.m,E Z z.w] 111)).drew) R mb rb (.slice Ac st.code.length cc) vl vn aN { st with wants:=st.wants++lF.map (fun t=>(st.code.length,i,t))}:=(h4.below ((Below.refl _ _).alloc (Nat.le_refl _) _)).zk fun _ _=>rfl;have K0:Keeps (GJ R mb (.slice Ac st.code.length cc) vl vn vw) w ((wc.alloc (Ce #[E Z z.op,E Z z.a,E Z z.b,E Z z.c,E J z.v,E Z z.m,E Z z.w] 111)).drew):=(((Keeps.zO Fh.out).trans h6 (fun k hh=>hh.elim (fun e=>Or.inr (by have:=dF.out;omega)) Or.inl)).alloc _).drew;exact J39):zP:=h
theorem a51.zvY (h:zP:=by
 have nL:(W0.size:Int)≤100000:=Y1;have sZ:(1:Int)≤(W0.size:Int):=Y1;have OX:n+1≤cap:=hcap;have hne0:((n:Int)+1==0)=false:=beq_eq_false_iff_ne.2 Y1;have hl:W0.size - 1<W0.size:=Y1;have wI:Hid (((n:Int)+1==1)=false∨(((n:Int)+1==1)=true∧(((W0[W0.size - 1]'hl).toNat:Int)==58)=false)):=Y0 (by
  rcases hnn with hz|⟨hz,hch⟩
  ·exact Or.inl (beq_eq_false_iff_ne.2 Y1)
  ·refine Or.inr ⟨beq_iff_eq.2 Y1,?_⟩
   rw[beq_eq_false_iff_ne]
   intro e
   have e2:=(Zx _ 58).1 e
   have hl2:w0.length - 1<w0.length:=Y1
   refine hch hl2 ?_
   have h3:=ZY W0 (W0.size - 1) hl
   rw[e2] at h3
   rw[hz0] at h3
   have h4:W0.data.toList=w0:=by rw[hW0]
   rw[h4,List.getElem?_eq_getElem hl2] at h3
   exact Option.some.inj h3)
 have cZ:W0.data.toList=w0:=by rw[hW0]
 have ru:=Y0 (zuL W0 w2);rw[cZ] at ru;have dW:=Y0 hn;clear hr hb hc c0 hnn hz0 hW0 hn cZ;go_upto_region 5 with fail;go_cut [37] (fun cc wx=>cc= .bool false∧w2=wx);case first=>
  rcases wI.out with t1|⟨t1,t2⟩
  ·go_wp2_with fail;go_meet;exact ⟨rfl,rfl⟩
  ·go_wp2_with fail;go_meet;exact ⟨rfl,rfl⟩
 case rest=>
  obtain ⟨rfl,rfl⟩:=hcut;go_wp2_with fail;refine ru.out.mono ?_;rintro e w3 ⟨rfl,rfl⟩;generalize KH w0=op at hop hop2 iR ru lY oQ ⊢;have Ms:(op==0)=false:=beq_eq_false_iff_ne.2 iR.out;have AZ:=Y0 hop2;clear hop hop2;go_upto_region 16 with fail;go_cut [7] (fun v wx=>(∃o c,v=Sl (V ⟨g,o,O⟩) n c∧(0<n→o=1))∧w2.alloc (Ce #[E Z op,E Z 0,E Z 0,E Z 0,E J 0,E Z 0,E Z 0] 111)=wx);case first=>
   go_wp2_with fail;all_goals
    go_meet
    first
     |exact ⟨⟨_,_,rfl,fun _=>rfl⟩,rfl⟩
     |exact ⟨⟨_,_,rfl,fun h=>by omega⟩,rfl⟩
  case rest=>
   obtain ⟨⟨o,c,rfl,ho⟩,hwc⟩:=hcut;subst hwc;obtain ⟨k0,k1,k2,CO,hks⟩:=zdX op AZ.out.1 AZ.out.2 (w2.alloc (Ce #[E Z op,E Z 0,E Z 0,E Z 0,E J 0,E Z 0,E Z 0] 111));have oU:=Y0 CO;obtain ⟨q,hq⟩: ∃q,q=(Zk op).length:=⟨_,rfl⟩;obtain ⟨q1,q2,q3⟩:=zo9 k0 k1 k2 hks;rw[←hq] at q1 q3;have lI:=Y0 q2;have fE:=Y0 q3;have HQ:=Y0 hq;have TF:(q:Int)≤3:=Y1;have OL:zT (w2.alloc (Ce #[E Z op,E Z 0,E Z 0,E Z 0,E J 0,E Z 0,E Z 0] 111)) w2.heap.size { op:=op}:=by
    have:=heap_alloc_new w2 (.cells #[E Z op,E Z 0,E Z 0,E Z 0,E J 0,E Z 0,E Z 0] 111);simpa[zT,zS] using this
   have Nl:=Y0 OL;clear CO hks hq q2 q3 OL;go_wp2_with fail;refine oU.out.mono ?_;rintro e w4 ⟨rfl,hb4⟩;have iO:=Y0 hb4;clear hb4;obtain ⟨kk,hkk⟩: ∃kk:Nat→Int,kk=fun j=> [k0,k1,k2].getD j 0:=⟨_,rfl⟩;have hY: ∀j,j<3→(w4.alloc (Ce #[E Z k0,E Z k1,E Z k2] 288)).cell? ⟨w4.heap.size,j,O⟩=V (E Z (kk j)):=by
    intro j hj
    rw[hkk]
    match j,hj with
    |0,_=>exact World.cell?_alloc_at _ _ _ _ rfl
    |1,_=>exact World.cell?_alloc_at _ _ _ _ rfl
    |2,_=>exact World.cell?_alloc_at _ _ _ _ rfl
   have HY:=Y0 hY;have lV:Hid ((∀j (hj:j<(Zk op).length),(Zk op)[j]=kk j∧kk j≠0)∧(q<3→kk q=0)):=Y0 ⟨fun j hj=>by
    obtain ⟨e1,e2⟩:=lI.out j hj
    rw[hkk]
    exact ⟨e1,fun e=>e2 (e1.trans e)⟩,fun h=>by rw[hkk];exact fE.out h⟩
   clear hY hkk lI fE;go_upto_block 0 with fail;go_cut [13] (fun nv wx=>nv=E Z (q:Int)∧w4.alloc (Ce #[E Z k0,E Z k1,E Z k2] 288)=wx);case first=>
    go_wp2_with fail;go_loop [13] (fun nv=> ∃j:Nat,j≤q∧nv=E Z j) (fun nv=>q - (intOf nv).toNat);case atStart=>exact ⟨0,by omega,rfl⟩
    case round=>
     obtain ⟨j,hj,rfl⟩:=hrel;have Am:(j:Int)≤(q:Int):=Y1;have hj0:(0:Int)≤(j:Int):=Y1;by_cases hlt:j<q
     ·have aH:(j:Int)<(q:Int):=Y1;have t1:decide ((j:Int)<3)=true:=decide_eq_true Y1;have cY:=HY.out j Y1;have t2:(kk j !=0)=true:=by rw[bne_iff_ne];exact (lV.out.1 j (by rw[←HQ.out];exact hlt)).2
      generalize kk j=x at cY t2;go_wp2;go_round;case rel=>exact ⟨j+1,by omega,by go_num⟩
      case measure=>simp[intOf];omega
     ·obtain rfl:j=q:=Y1;by_cases h3:j<3
      ·have RF:(j:Int)<3:=Y1;have t1:decide ((j:Int)<3)=true:=decide_eq_true RF;have cY:=HY.out j h3;have t2:(kk j !=0)=false:=by rw[bne_eq_false_iff_eq];exact lV.out.2 h3
       generalize kk j=x at cY t2;go_wp2_with fail;go_meet;exact ⟨rfl,rfl⟩
      ·have t1:decide ((j:Int)<3)=false:=decide_eq_false Y1;go_wp2_with fail;go_meet;exact ⟨rfl,rfl⟩
   case rest=>
    obtain ⟨rfl,hwc⟩:=hcut;subst hwc;have tC:Hid (∀k (hk:k<ws.length),(w4.alloc (Ce #[E Z k0,E Z k1,E Z k2] 288)).cell? ⟨g,1+k,O⟩=V (vD ws[k])):=Y0 (fun k hk=>by
     have h1:=HC.out (k+1) Y8
     have hb1:Below w2.heap.size w2 (w4.alloc (Ce #[E Z k0,E Z k1,E Z k2] 288)):=(((Below.refl _ w2).alloc (Nat.le_refl _) _).trans (iO.out.mono Y7)).alloc (by have:=iO.out.size;simp at this;omega) _
     rw[Nat.add_comm 1 k]
     exact (hb1.cell (p:=⟨g,k+1,O⟩) hg2).trans h1)
    have G8:=Y0 ho;have oM:Hid (((n:Int) !=(q:Int))=false∨(((n:Int) !=(q:Int))=true∧((n:Int) !=(q:Int)+1)=false∧ ∃r,(w4.alloc (Ce #[E Z k0,E Z k1,E Z k2] 288)).cell? ⟨g,o+q,O⟩=V (vD (33::r))∧(q:Int)<(n:Int))):=Y0 (by
     have e1:=dW.out
     have e2:=HQ.out
     rcases lY.out with ⟨h,_⟩ |⟨h,r,hr,_⟩
     ·left
      rw[bne_eq_false_iff_eq];omega
     ·right
      rw[←e2] at hr
      have hlt:q<ws.length:=Y1
      refine ⟨by rw[bne_iff_ne];omega,by rw[bne_eq_false_iff_eq];omega,r,?_,by omega⟩
      rw[G8.out Y1]
      rw[tC.out q hlt]
      rw[List.getElem?_eq_getElem hlt] at hr
      rw[Option.some.inj hr])
    clear ho;go_upto_region 21 with fail;go_cut [152] (fun cc wx=>cc= .bool false∧(w4.alloc (Ce #[E Z k0,E Z k1,E Z k2] 288))=wx);case first=>
     rcases oM.out with t1|⟨t1,t2,r,cr,hqn⟩
     ·go_wp2_with fail;go_meet;exact ⟨rfl,rfl⟩
     ·have hq0:(0:Int)≤(q:Int):=Y1;obtain ⟨S,hS⟩: ∃S:ByteArray,S=⟨(33::r).toArray⟩:=⟨_,rfl⟩;have hSz:0<S.size:=by rw[hS];exact Nat.succ_pos _
      have t3:(((S[0]'hSz).toNat:Int) !=33)=false:=by
       rw[bne_eq_false_iff_eq];exact zyB
      have cr':(w4.alloc (Ce #[E Z k0,E Z k1,E Z k2] 288)).cell? ⟨g,o+q,O⟩=V (.string S):=by rw[hS];exact cr
      clear cr hS;go_wp2_with fail;go_meet;exact ⟨rfl,rfl⟩
    case rest=>
     obtain ⟨rfl,hwc⟩:=hcut;subst hwc;have QC:=Y0 lK.out.lt;have yV:Hid (¬GJ R mb vc vl vn vw w2.heap.size):=Y0 (fun h=>by
      have h1:=lK.out.of_lt h
      have h2:=HB.out.size
      omega)
     have Fh:Hid (Below w.heap.size w (w4.alloc (Ce #[E Z k0,E Z k1,E Z k2] 288))):=Y0 (by
      have h1:=HB.out.size
      have h2:=iO.out.size
      simp at h2
      exact ((HB.out.alloc h1 _).trans (iO.out.mono Y8)).alloc Y1 _)
     have dF:Hid (w.heap.size≤g∧g<w2.heap.size∧w2.heap.size<w4.heap.size∧w4.heap.size<(w4.alloc (Ce #[E Z k0,E Z k1,E Z k2] 288)).heap.size):=Y0 (by
      have h1:=HB.out.size
      have h2:=iO.out.size
      simp at h2
      exact ⟨hg1,hg2,by omega,by simp⟩)
     have G9:Hid (zT (w4.alloc (Ce #[E Z k0,E Z k1,E Z k2] 288)) w2.heap.size { op:=op}):=Y0 (by
      have h2:=dF.out.2.2.1
      have hb1:Below (w2.heap.size+1) (w2.alloc (Ce #[E Z op,E Z 0,E Z 0,E Z 0,E J 0,E Z 0,E Z 0] 111)) (w4.alloc (Ce #[E Z k0,E Z k1,E Z k2] 288)):=(iO.out.mono Y7).alloc Y1 _
      exact (hb1.block _ Y1).trans Nl.out)
     clear HB iO Nl iR ru HW oU;generalize nk:w4.alloc (Ce #[E Z k0,E Z k1,E Z k2] 288)=W5 at HY tC oM Fh dF G9 ⊢;generalize w4.heap.size=ay at HY dF ⊢;generalize w2.heap.size=X at yV dF G9 hg2 ⊢;clear nk oM;have H0:Hid (znI W5 R mb rb X i vc vl vn vw st (Zk op) ws yF lF 0 W5):=Y0 ⟨_,[],lF,vw,oQ.out,rfl,Nat.le_refl _,by
      have:=lK.out.below Fh.out
      simpa using this,G9.out,Keeps.refl _ _,fun k h=>Or.inl h⟩
     clear hg2 hg1 HC QC;go_wp2_with fail;go_loopw [14,15,157] (fun _ _ cv wr=> ∃j:Nat,j≤q∧cv=E Z j∧Hid (znI W5 R mb rb X i vc vl vn vw st (Zk op) ws yF lF j wr)) (fun _ _ cv _=>q - (intOf cv).toNat);case atStart=>exact ⟨0,by omega,rfl,H0⟩
     case round=>
      obtain ⟨j,hj,rfl,HT⟩:=hrel;have Am:(j:Int)≤(q:Int):=Y1;by_cases hlt:j<q
      ·have aH:(j:Int)<(q:Int):=Y1;have hlt3:(j:Int)<3:=Y1;obtain ⟨y,l,lr,aN,h1,h2,h3,h4,h5,h6,h7⟩:=HT.out;have hjk:j<(Zk op).length:=by rw[←HQ.out];exact hlt
       exact zwk
      ·obtain rfl:j=q:=Y1;have oh:=Y0 (zp7 HT.out HQ.out);have Dl:n=j∨(n=j+1∧ ∃r,ws[j]?=V (33::r)∧Gb yF (33::r)=some z):=by
        have e1:=dW.out;have e2:=HQ.out;rcases lY.out with ⟨h,_⟩ |⟨h,h2⟩
        ·left;omega
        ·right;rw[e2];exact ⟨by omega,h2⟩
       have Dm:n=j→yF=z:=by
        have e1:=dW.out;have e2:=HQ.out;rcases lY.out with ⟨_,h⟩ |⟨h,h2⟩
        ·exact fun _=>h
        ·exact fun _=>by omega
       have qZ:=Y0 Dl;have q8:=Y0 Dm;clear lY Dl Dm HT;go_upto_if 177 with fail;go_cut [16] (fun _ wx=>Hid (zjR W5 R mb rb X i vc vl vn vw st z lF wx));case first=>
        rcases qZ.out with hn|⟨hn,r,hr,hm⟩
        ·have HZ:=Y0 (q8.out hn);have Tx:n≤j:=Y1;have t1:decide (j<n)=false:=decide_eq_false Y1;have t2:decide ((j:Int)<(n:Int))=false:=decide_eq_false Y1;clear hn qZ q8;go_wp2_with fail;go_meet;rw[←HZ.out];exact oh
        ·have hjn:j<ws.length:=by rw[←dW.out];omega
         have DY:(j:Int)<(n:Int):=Y1;obtain ⟨S,hS⟩: ∃S:ByteArray,S=⟨(33::r).toArray⟩:=⟨_,rfl⟩;have fJ:S.data.toList=33::r:=by rw[hS]
         obtain ⟨aN,h4,h5,h6,h7⟩:=oh.out;have cW:wr.cell? ⟨g,o+j,O⟩=V (.string S):=(h6.cell (p:=⟨g,o+j,O⟩) (by have:=dF.out;show g<W5.heap.size;omega) (by
          rintro (e|e)
          ·have:=dF.out;(try simp at e);omega
          ·have h8:g<w.heap.size:=lK.out.of_lt e;have h9:=dF.out;omega)).trans (by
           rw[G8.out Y1,tC.out j hjn]
           rw[List.getElem?_eq_getElem hjn] at hr
           rw[Option.some.inj hr,hS];rfl)
         have Ht:=Y0 (GH X yF z S i wr h5 (by rw[fJ];exact hm) (by
          rw[←zL,fJ]
          rw[List.getElem?_eq_getElem hjn] at hr
          have:=yU.out _ (List.getElem_mem hjn)
          rw[Option.some.inj hr] at this
          omega))
         have t1:decide (j<n)=true:=decide_eq_true Y1;clear hn hr hm hS fJ h4 h5 h6 h7 hjn qZ q8;go_wp2_with fail;refine Ht.out.mono ?_;rintro e w' ⟨rfl,hz,hk⟩;have HZ:=Y0 (zi5 oh.out (by have:=dF.out;omega) yV.out hz hk);clear hz hk;go_wp2_with fail;go_meet;exact HZ
       case rest=>
        exact zwj):zP:=h
theorem a51.zwn (h:zP:=by
 have cY:(wr.drew).cell? ⟨ay,j,O⟩=V (E Z (kk j)):=(h6.drew.cell (p:=⟨ay,j,O⟩) dF.out.2.2.2 (by
  rintro (e|e)
  ·have:=dF.out;(try simp at e);omega
  ·have h8:ay<w.heap.size:=lK.out.of_lt e;have h9:=dF.out;omega)).trans (HY.out j Y1)
 have cW:(wr.drew).cell? ⟨g,o+j,O⟩=V (.string S):=(h6.drew.cell (p:=⟨g,o+j,O⟩) (by have:=dF.out;show g<W5.heap.size;omega) (by
  rintro (e|e)
  ·have:=dF.out;(try simp at e);omega
  ·have h8:g<w.heap.size:=lK.out.of_lt e;have h9:=dF.out;omega)).trans (by rw[G8.out Y1,tC.out j nG,hS];rfl)
 have wP:=Y0 (zfq (w:=wr.drew) (h4.zk fun _ _=>rfl) (by have:=h6.size;have:=dF.out;show rb≤wr.heap.size;omega) (by
  intro h
  rcases zpa h7 h with h|h
  ·exact yV.out h
  ·have:=dF.out;omega) (X:=X) (x:=y) h5 S Y85 i (kk j) (by rw[←(lV.out.1 j hjk).1];exact zao op _ (List.getElem_mem _)) (y:=y') (o:=o2) (by rw[←(lV.out.1 j hjk).1,fJ];exact s1) (by show st.code.length≤100000;omega) Y8)
 have tV:Hid (∀e w',VB wr.drew R mb rb vc vl vn aN { st with wants:=st.wants++l.map (fun t=>(st.code.length,i,t))} X y' o2 i e w'→e=Rt .nilIface∧znI W5 R mb rb X i vc vl vn vw st (Zk op) ws yF lF (j+1) w'):=Y0 (fun e w' h=>zm9 h3 h6.drew h7 s2 (by rw[h2,s3]) h);clear h1 h2 h3 h4 h5 h6 h7 s1 s2 s3 fJ hS hjk nG HT;generalize kk j=kj at cY wP;go_wp2_with fail;go_still_tail 9,Y4;change wpList _ _ _ _ _ wr.drew;generalize wr.drew=wd at cY cW wP tV ⊢;go_wp2_with fail;refine wP.out.mono ?_;intro e w' hout;obtain ⟨he,dO⟩:=tV.out e w' hout;exact zx5):zP:=h
open a51 in
theorem zg0 {w:World} {R mb rb:Nat} {vc vl vn vw:Value} {st:St} (hR:Rd w R mb rb vc vl vn vw st) (hrb:rb≤w.heap.size) (s:ByteArray) (i:Nat) (hs:s.size≤100000) (hsemi: ∀c∈s.data.toList,c≠59) {w0:Str} {ws:List Str} (hw:ZN s.data.toList=w0::ws) (hw0:0<w0.length∧w0.length≤100000) (hnl: ¬(ws= []∧w0.getLast?=some 58)) (hop:KH w0≠0) (hop2:1≤KH w0∧KH w0≤58) (hwn:ws.length≤100000) (hws: ∀x∈ws,x.length≤100000) {yF z:zx} {lF:List Str} (hopd:ZA { op:=KH w0} (Zk (KH w0)) ws=V (yF,lF)) (hmk:(ws.length=(Zk (KH w0)).length∧yF=z)∨(ws.length=(Zk (KH w0)).length+1∧ ∃r,ws[(Zk (KH w0)).length]?=V (33::r)∧Gb yF (33::r)=some z)) (hcn:st.code.length≤90000) (hwl:st.wants.length≤90000):
  Calls Tp 77 #[Y (V ⟨R,0,O⟩), .string s,E Z i] w (GL w R mb rb vc vl vn vw { st with code:=st.code++ [z],wants:=st.wants++lF.map (fun t=>(st.code.length,i,t))}):=by
 have oQ:=Y0 hopd;have yU:=Y0 hws;have lY:=Y0 hmk;have HW:=Y0 (JQ s w hs hsemi);have HN:=Y0 hw;have hnn:ws.length≠0∨(ws.length=0∧ ∀h:w0.length - 1<w0.length,w0[w0.length - 1]≠58):=by
  by_cases h:ws.length=0
  ·right;refine ⟨h,fun hl e=>hnl ⟨List.length_eq_zero_iff.1 h,?_⟩⟩;rw[List.getLast?_eq_getElem?,List.getElem?_eq_getElem hl,e]
  ·exact Or.inl h
 have lK:=Y0 hR;have iR:=Y0 hop;obtain ⟨n,hn⟩: ∃n,n=ws.length:=⟨_,rfl⟩;have dV:(n:Int)≤100000:=Y1;clear hs hsemi hw hR hnl hmk hopd hws;exact J99
end Asm
end Go.Proofs.YtdlpmnmenhojfaaGreatDoor
