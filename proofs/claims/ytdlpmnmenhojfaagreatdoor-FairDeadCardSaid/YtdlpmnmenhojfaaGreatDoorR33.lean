/- Part 33 of what the proof stands on: RefB. -/
import Derived.Test.YtdlpmnmenhojfaaGreatDoorR26
import Derived.Test.YtdlpmnmenhojfaaGreatDoorR29
set_option linter.unusedVariables false
set_option maxHeartbeats 40000000
set_option maxRecDepth 100000
variable {zP:Prop}
namespace Go.Proofs.YtdlpmnmenhojfaaGreatDoor
open Go.IntKind renaming i64->Z,u64->J
open Go.Value renaming int->E,pointer->Y,slice->Sl
open Option renaming none->O,some->V
open Go.Obj renaming cells->Ce
open Go.Ending renaming returned->Rt
open Go.Proofs.Tryz renaming prog->Tp
namespace Asm
open Go.RowKit Go.Maps PosTab
def zhM:Array Value:=(zN.map vD).toArray
theorem zlv (w:World):Calls Tp 71 #[] w fun e w'=>e=Rt (Sl (V ⟨w.heap.size,0,O⟩) 58 58)∧w'=w.alloc (.cells zhM 9):=by
 go_enter Tryz.func71,Tryz.ntmps71;go_wp2;go_ret;exact ⟨rfl,by kernel_rfl⟩
theorem zjg: ∀i (h:i<zN.length),KH zN[i]=(i:Int)+1:=Y2
theorem zgH (s:Str): ∀(l:List Str) (n:Int) (i:Nat),1≤n→Gq s l n=n+i→l[i]?=some s
 |[],n,i,hn,h=>by simp[Gq] at h;omega
 |x::l,n,i,hn,h=>by
  unfold Gq at h
  split at h
  ·rename_i hx
   obtain rfl:i=0:=Y1
   rw[hx];rfl
  ·cases i with
   |zero=>
    rcases gV s l (n+1) with h2|h2
    ·omega
    ·omega
   |succ i=>
    have:=zgH s l (n+1) i Y1 (by rw[h];push_cast;omega)
    simpa using this
theorem zjh {s:Str} {i:Nat} (h:KH s=(i:Int)+1):zN[i]?=some s:=zgH s zN 1 i Y1 (by unfold KH at h;omega)
def zaB (s:Str) (i:Nat):Int:=if KH s≤i then KH s else 0
theorem zpU {s:Str} {i:Nat} (h:zN[i]?=some s) (hi:i<zN.length):zaB s (i+1)=(i:Int)+1:=by
 have e:zN[i]=s:=by rw[List.getElem?_eq_getElem hi] at h;exact Option.some.inj h
 have:=zjg i hi;rw[e] at this;unfold zaB;rw[this,if_pos (by push_cast;omega)]
theorem zl3 {s:Str} {i:Nat} (h:zN[i]?≠some s):zaB s (i+1)=zaB s i:=by
 unfold zaB;have:KH s≠(i:Int)+1:=fun e=>h (zjh e);by_cases h1:KH s≤i
 ·rw[if_pos h1,if_pos (by push_cast;omega)]
 ·rw[if_neg h1,if_neg (by push_cast;omega)]
theorem zk1 (s:Str):zaB s 0=0:=by
 unfold zaB;split
 ·rcases gV s zN 1 with h|h
  ·exact h
  ·have h1:1≤KH s:=h.1;omega
 ·rfl
theorem zqA (s:Str):zaB s 58=KH s:=by
 unfold zaB;split
 ·rfl
 ·rename_i hh;by_cases h0:KH s=0
  ·exact h0.symm
  ·have:=Bn s h0;omega
end Asm
namespace Asm
open Go.RowKit
def gH (l:Str) (i:Nat) (cur:Str) (D:List Str):Prop:=
 (i≤l.length→ZN l=D++vo cur (l.drop i))∧(l.length<i→ZN l=D)∧D.length≤i∧cur.length≤i
theorem zeu (l:Str):gH l 0 [] []:=⟨fun _=>by simp[ZN],fun h=>by omega,Nat.le_refl _,Nat.le_refl _⟩
theorem zfH {l cur:Str} {i:Nat} {D:List Str} (h:gH l i cur D) (hi:i<l.length) (hc:l[i]≠32):gH l (i+1) (cur++ [l[i]]) D:=by
 obtain ⟨h2,h3,h4,h5⟩:=h;refine ⟨fun _=>?_,fun h=>by omega,by omega,by simp;omega⟩;rw[h2 Y1,List.drop_eq_getElem_cons hi,vo,if_neg hc]
theorem zim {l cur:Str} {i:Nat} {D:List Str} (h:gH l i cur D) (hi:i≤l.length) (hc: ∀(h:i<l.length),l[i]=32):gH l (i+1) [] (if cur= [] then D else D++ [cur]):=by
 obtain ⟨h2,h3,h4,h5⟩:=h;have hlen:(if cur= [] then D else D++ [cur]).length≤i+1:=by
  split
  ·omega
  ·simp;omega
 by_cases hlt:i<l.length
 ·refine ⟨fun _=>?_,fun h=>by omega,hlen,by simp⟩;rw[h2 hi,List.drop_eq_getElem_cons hlt,vo,if_pos (hc hlt)];split<;>simp
 ·refine ⟨fun h=>by omega,fun _=>?_,hlen,by simp⟩;rw[h2 hi,show l.drop i= [] from List.drop_of_length_le Y1,vo];split<;>simp
theorem zjb (s:ByteArray) (w:World) (hs:s.size≤100000) (hsemi: ∀c∈s.data.toList,c≠59):Calls Tp 31 #[.string s] w (zhd w s.data.toList):=by
 have hsI:(s.size:Int)≤100000:=Y1;obtain ⟨i0,hi0,hz0,hs0,hb0⟩:=info_parts zaO;have HS:=Y0 hs;have wX:=Y0 hsemi;clear hs hsemi;go_enter Tryz.func31,Tryz.ntmps31;go_wp2;go_loopw [3,4,5] (fun lv cv iv wr=> ∃(i:Nat) (W:ByteArray) (D:List Str),i≤s.size+1∧W.size≤i∧cv= .string W∧iv=E Z i∧Hid (gH s.data.toList i W.data.toList D)∧Hid (bY wr w.heap.size lv D)∧Hid (Below w.heap.size w wr)) (fun _ _ iv _=>s.size+1 - (intOf iv).toNat);case atStart=>exact ⟨0,⟨#[]⟩,[],by omega,Nat.le_refl _,rfl,rfl,Y0 (zeu _),Y0 (World.ownsRow_nil _ _ _ _),Y0 (Below.refl _ _)⟩
 case round=>
  obtain ⟨i,W,D,hi,hWz,rfl,rfl,HW,HR,HB⟩:=hrel;have dH:(i:Int)≤(s.size:Int)+1:=Y1;obtain ⟨A,c,hv⟩:=zn HR.out;subst hv;have hDl:D.length≤i:=HW.out.2.2.1;by_cases hle:i≤s.size;case neg=>
   have hd:decide ((i:Int)≤(s.size:Int))=false:=decide_eq_false Y1;have hd2:decide (i≤s.size)=false:=decide_eq_false hle;have aD:Hid (ZN s.data.toList=D):=Y0 (HW.out.2.1 Y21);clear hle;go_wp2;go_ret;exact ⟨_,rfl,by rw[aD.out];exact HR.out,HB.out⟩
  have yD:(i:Int)≤(s.size:Int):=Y1;have hd2:decide (i≤s.size)=true:=decide_eq_true hle;by_cases hch: ∃h:i<s.size,s[i]≠32
  ·obtain ⟨hlt,hne⟩:=hch;have aH:(i:Int)<(s.size:Int):=Y1;have hb:((s[i].toNat:Int) !=32)=true:=by rw[bne_iff_ne];intro e;exact hne ((Zx _ 32).1 e)
   have hb2:((s[i].toNat:Int) !=59)=true:=by rw[bne_iff_ne];intro e;exact wX.out _ (ze5 s i hlt) ((Zx _ 59).1 e)
   have OU:W.size≤100001:=by have:=HS.out;omega
   have xK:(W++s.extract i (i+1)).data.toList=W.data.toList++ [s[i]]:=by
    rw[ByteArray.data_append,Array.toList_append,Zj];congr 1;rw[show i+1 - i=1 by omega,List.drop_eq_getElem_cons Y63];rfl
   have cu:Hid (gH s.data.toList (i+1) (W++s.extract i (i+1)).data.toList D):=Y0 (by
    rw[xK];exact zfH HW.out Y63 hne)
   have Du:(W++s.extract i (i+1)).size≤i+1:=by
    rw[←zL,xK,List.length_append,zL];simp;omega
   have he1:(s.extract i (i+1)).size≤1:=by rw[←zL,Zj,List.length_take];omega
   have HZ:=Y0 Du;clear hne xK Du;go_wp2;go_roundw;case rel=>exact ⟨i+1,_,D,by omega,HZ.out,rfl,by go_num,cu,HR,HB⟩
   case measure=>simp[intOf];omega
  ·have iB:=Y0 (zim HW.out (by rw[zL];exact hle) (fun h=>by
    have h2:i<s.size:=by rw[zL] at h;exact h
    exact Classical.byContradiction fun hne=>hch ⟨h2,hne⟩))
   have hex:decide (i<s.size)=false∨(∃h:i<s.size,decide (i<s.size)=true∧((s[i].toNat:Int) !=32)=false∧((s[i].toNat:Int)==59)=false):=by
    by_cases h:i<s.size
    ·have h32:s[i]=32:=Classical.byContradiction fun hne=>hch ⟨h,hne⟩;refine Or.inr ⟨h,decide_eq_true h,?_,?_⟩
     ·rw[bne_eq_false_iff_eq];exact (Zx _ 32).2 h32
     ·rw[h32];rfl
    ·exact Or.inl (decide_eq_false h)
   clear hch;by_cases ha:W.data.toList= []
   ·rw[if_pos ha] at iB;have q1:W.toList= []:=by rw[ZF];exact ha
    have q2:W.toList.isEmpty=true:=by rw[q1];rfl
    have hQa:=Y0 q1;clear ha q1;rcases hex with t1|⟨hlt,t1,t2,t3⟩
    all_goals
     go_wp2
     go_roundw
     case rel=>exact ⟨i+1,⟨#[]⟩,D,by omega,Nat.zero_le _,rfl,by go_num,iB,HR,HB⟩
     case measure=>simp[intOf];omega
   ·rw[if_neg ha] at iB;have q2:W.toList.isEmpty=false:=by
     rw[ZF]
     cases hl:W.data.toList with
     |nil=>exact absurd hl ha
     |cons _ _=>rfl
    have hdl:D.length+1≤200000:=by have:=HS.out;omega
    have lu:Hid ((wr.alloc (Ce #[.string W] 9)).ownsRow w.heap.size 9 1 (.slice A D.length c) D.length (D.map vD)):=Y0 (HR.out.alloc _);have Hw:Hid (∀(j:Nat) (u:Value),[Value.string W][j]?=some u→(wr.alloc (Ce #[.string W] 9)).cell? ((⟨wr.heap.size,0,O⟩:Addr).add j)=some u):=Y0 (fun j u hu=>by
     rw[Addr.add_lit,Nat.zero_add]
     exact (World.cell?_alloc_at _ _ _ _ rfl).trans Y23)
    have Ib:Hid (∀u∈ [Value.string W],u.oneCell'=true):=Y0 (fun u hu=>by
     rw[List.mem_singleton] at hu;subst hu;rfl)
    have EX:=Y0 (show D.length+1≤maxLen by unfold maxLen;omega);have Cn:=Y0 (show (D.length+1)*16≤140737488355328 by omega);have fV:=Y0 (show w.heap.size≤(wr.alloc (Ce #[.string W] 9)).heap.size by have:=HB.out.size;simp;omega);have AJ:=Y0 (HB.out.alloc HB.out.size (.cells #[.string W] 9));have aD:Hid (∀v' w',w'.ownsRow w.heap.size 9 1 v' (D.length+1) (D.map vD++ [Value.string W])→bY w' w.heap.size v' (D++ [W.data.toList])):=Y0 (fun v' w' h=>by
     unfold bY
     rw[List.length_append,List.map_append,List.map_singleton,show vD W.data.toList=Value.string W from rfl]
     exact h)
    have oL:Hid (∀w',(wr.alloc (Ce #[.string W] 9)).grownBy w' (Value.slice A D.length c).ownBlock→Below w.heap.size w w'):=Y0 (fun w' h=>AJ.out.grown h fV.out (fun k e=>(lu.out.lt k e).1));clear hDl hdl ha;rcases hex with t1|⟨hlt,t1,t2,t3⟩
    all_goals
     go_wp2_with (at_builtin;refine wpList_append_own _ rfl _ _ 90 rfl w.heap.size 9 i0 _ 1 16 Tryz.underlying90 hi0 hz0 hs0 hb0 rfl Y2 _ _ _ rfl lu.out ⟨wr.heap.size,0,O⟩ 1 1 [.string W] rfl rfl Hw.out Ib.out EX.out Cn.out fV.out ?_;intro v' w3 hown hgrow hnew;obtain ⟨A',c',rfl⟩:=zn hown;have rz:=Y0 (aD.out _ _ hown);have aY:=Y0 (oL.out _ hgrow);clear hown hgrow hnew)
     go_roundw
     case rel=>exact ⟨i+1,⟨#[]⟩,_,by omega,Nat.zero_le _,rfl,by go_num,iB,rz,aY⟩
     case measure=>simp[intOf];omega
open Go.RowKit Go.Maps PosTab
def Bg (w:World) (R rb:Nat) (vc vl vn vw:Value) (st':St) (ln:Nat) (e:Ending) (w':World):Prop:=
 e=Rt (Y none)∧ ∃mG mH mJ aN,RP w' R rb mG mH mJ aN st' ln∧Keeps (gI R vc vl vn vw) w w'∧ ∀k,gI R mG mH mJ aN k→gI R vc vl vn vw k∨w.heap.size≤k
def zgF (W5:World) (R rb X ln:Nat) (vc vl vn vw:Value) (st:St) (ks:List Int) (ws:List Str) (yF:zx) (lF:List Str) (j:Nat) (wr:World):Prop:=
 ∃y l lr aN,ZA y (ks.drop j) (ws.drop j)=V (yF,lr)∧lF=l++lr∧l.length≤j∧RP wr R rb vc vl vn aN { st with wants:=st.wants++l.map (fun t=>(st.code.length,ln,t))} ln∧zT wr X y∧Keeps (fun k=>k=X∨gI R vc vl vn vw k) W5 wr∧(∀k,aN.ownBlock=some k→vw.ownBlock=some k∨W5.heap.size≤k)
section
variable {W5 wr w':World} {R rb X ln:Nat} {vc vl vn vw aN:Value} {st:St} {ks:List Int} {ws:List Str} {yF y' z:zx} {lF l qy:List Str} {o:Option Str} {j q:Nat} {e:Ending}
theorem zii (hl:l.length≤j) (hk:Keeps (fun k=>k=X∨gI R vc vl vn vw k) W5 wr) (ho: ∀k,aN.ownBlock=some k→vw.ownBlock=some k∨W5.heap.size≤k) (h2:ZA y' (ks.drop (j+1)) (ws.drop (j+1))=V (yF,qy)) (hF:lF=l++(o.toList++qy))
  (h:Ve wr R rb vc vl vn aN { st with wants:=st.wants++l.map (fun t=>(st.code.length,ln,t))} ln X y' o e w'):e=Rt (Y none)∧zgF W5 R rb X ln vc vl vn vw st ks ws yF lF (j+1) w':=by
 obtain ⟨he,hy,MR,hr,hk2,ho2⟩:=h;refine ⟨he,y',l++o.toList,qy,MR,h2,by rw[hF,List.append_assoc],?_,?_,hy,?_,?_⟩
 ·have:o.toList.length≤1:=by cases o<;>simp
  simp;omega
 ·have e2:st.wants++(l++o.toList).map (fun t=>(st.code.length,ln,t))=(st.wants++l.map (fun t=>(st.code.length,ln,t)))++o.toList.map (fun t=>(st.code.length,ln,t)):=by rw[List.map_append,List.append_assoc]
  rw[e2];exact hr
 ·refine hk.trans hk2 fun k hh=>?_;rcases hh with hh|hh
  ·exact Or.inl (Or.inl hh)
  ·rcases zhX ho hh with hh|hh
   ·exact Or.inl (Or.inr hh)
   ·exact Or.inr hh
 ·intro k hh;rcases ho2 k hh with hh|hh
  ·exact ho k hh
  ·exact Or.inr (Nat.le_trans hk.size hh)
def zen (W5:World) (R rb X ln:Nat) (vc vl vn vw:Value) (st:St) (z:zx) (lF:List Str) (wr:World):Prop:=
 ∃aN,RP wr R rb vc vl vn aN { st with wants:=st.wants++lF.map (fun t=>(st.code.length,ln,t))} ln∧zT wr X z∧Keeps (fun k=>k=X∨gI R vc vl vn vw k) W5 wr∧(∀k,aN.ownBlock=some k→vw.ownBlock=some k∨W5.heap.size≤k)
theorem zlH (h:zgF W5 R rb X ln vc vl vn vw st ks ws yF lF q wr) (hq:q=ks.length):zen W5 R rb X ln vc vl vn vw st yF lF wr:=by
 exact zyM
theorem zf3 (h:zen W5 R rb X ln vc vl vn vw st yF lF wr) (hX:X<W5.heap.size) (hXn: ¬gI R vc vl vn vw X) (hz:zT w' X z) (hk:Keeps (fun i=>i=X) wr w'):zen W5 R rb X ln vc vl vn vw st z lF w':=by
 obtain ⟨aN,h4,h5,h6,h7⟩:=h;refine ⟨aN,h4.keeps hk fun k hk' e=>?_,hz,h6.trans (hk.mono (fun k e=>Or.inl e)) (fun k e=>Or.inl e),h7⟩;subst e;rcases zhX h7 hk' with h|h
 ·exact hXn h
 ·omega
end
theorem a80.Q39 (h:zP:=by
 have M1:=Y0 (show st.code.length+1≤maxLen by have:=iZ.out;unfold maxLen;omega);have M2:=Y0 (show (st.code.length+1)*56≤140737488355328 by have:=iZ.out;omega);have M3:=Y0 (show rb≤(((wc.alloc (Ce #[E Z z.op,E Z z.a,E Z z.b,E Z z.c,E J z.v,E Z z.m,E Z z.w] 111)).drew)).heap.size by
  have e1:=h6.size
  show rb≤(wc.alloc _).heap.size;simp;omega)
 have HV:Hid (some R≠(Value.slice Ac st.code.length cc).ownBlock):=Y0 (own_ne h4.code h4.vO Y2);have aD:Hid (∀v' w8,w8.ownsRow rb 111 7 v' (st.code.length+1) (Ze st.code++ [E Z z.op,E Z z.a,E Z z.b,E Z z.c,E J z.v,E Z z.m,E Z z.w])→(((wc.alloc (Ce #[E Z z.op,E Z z.a,E Z z.b,E Z z.c,E J z.v,E Z z.m,E Z z.w] 111)).drew)).grownBy w8 (Value.slice Ac st.code.length cc).ownBlock→(v'.ownBlock=(Value.slice Ac st.code.length cc).ownBlock∨v'.ownBlock=V (((wc.alloc (Ce #[E Z z.op,E Z z.a,E Z z.b,E Z z.c,E J z.v,E Z z.m,E Z z.w] 111)).drew)).heap.size)→
   Bg w R rb (.slice Ac st.code.length cc) vl vn vw { st with code:=st.code++ [z],wants:=st.wants++lF.map (fun t=>(st.code.length,ln,t))} ln (.returned (Y none)) (w8.setCell ⟨R,0,O⟩ v')):=Y0 (fun v' w8 hr hg hnew=>by
  have hr2:w8.ownsRow rb 111 7 v' (st.code++ [z]).length (Ze (st.code++ [z])):=by
   rw[zaY,List.length_append];exact hr
  have hadd:=h0.zbn z hg hr2
  have hK2:Keeps (gI R (.slice Ac st.code.length cc) vl vn vw) w (w8.setCell ⟨R,0,O⟩ v'):=(K0.grown hg (fun k e=>Or.inr (Or.inl e))).setCell (p:=⟨R,0,O⟩) (Or.inl rfl) _
  refine ⟨rfl,v',vl,vn,aN,hadd,hK2,fun k hk=>?_⟩
  rcases hk with e|e|e|e|e
  ·exact Or.inl (Or.inl e)
  ·rcases hnew with e2|e2
   ·exact Or.inl (Or.inr (Or.inl (e2▸e)))
   ·right
    rw[e2] at e
    have h2:(wc.alloc (Ce #[E Z z.op,E Z z.a,E Z z.b,E Z z.c,E J z.v,E Z z.m,E Z z.w] 111)).heap.size=k:=Option.some.inj e
    have e1:=h6.size
    simp at h2
    omega
  ·exact Or.inl (Or.inr (Or.inr (Or.inl e)))
  ·exact Or.inl (Or.inr (Or.inr (Or.inr (Or.inl e))))
  ·rcases h7 k e with e|e
   ·exact Or.inl (Or.inr (Or.inr (Or.inr (Or.inr e))))
   ·exact Or.inr Y1)
 have dD:Hid (∀w8:World,(((wc.alloc (Ce #[E Z z.op,E Z z.a,E Z z.b,E Z z.c,E J z.v,E Z z.m,E Z z.w] 111)).drew)).grownBy w8 (Value.slice Ac st.code.length cc).ownBlock→w8.cell? ⟨R,0,O⟩=V (.slice Ac st.code.length cc)∧w8.frozen? ⟨R,0,O⟩=false):=Y0 (fun w8 hg=>by
  have hb:=hg.block R h0.lt HV.out
  exact ⟨(World.cell?_of_block (a:=⟨R,0,O⟩) hb).trans h0.cell.1,(World.frozen?_of_block (a:=⟨R,0,O⟩) hb).trans (h0.cell.2.2.2.2.2 0)⟩)
 generalize hy:st.code.length=y at r0 E0 M1 M2 HV aD dD;have IE:=Y0 hy;clear hy;clear h4 h5 h6 h7 h0 K0 hcut mX;go_wp2_with fail;go_region_law (first|(refine Zw _ rfl (.tmp 170) (.tmp 172) 24 rfl rb 111 iw _ 7 56 Tryz.underlying24 hiw qO hsw hbw rfl Y2 (.slice Ac y cc) y (Ze st.code) Y20 E0.out ⟨wc.heap.size,0,O⟩ 1 1 [E Z z.op,E Z z.a,E Z z.b,E Z z.c,E J z.v,E Z z.m,E Z z.w] Y20 rfl N1.out O1.out M1.out M2.out M3.out ?_;intro v' w8 hown' hgrow hnew;obtain ⟨A',c',rfl⟩:=zn hown';have tt:=dD.out w8 hgrow;have t0:=tt.1;have t1:=tt.2;have HF:=Y0 (aD.out _ _ hown' hgrow hnew);clear hown' hgrow hnew tt));all_goals
  go_wp2
  go_ret
  have ey:=IE.out
  subst ey
  exact HF.out):zP:=h
theorem a80.zwz (h:zP:=by
 have TM:w.heap.size≤w3.heap.size:=by have:=dF.out;omega
 have h0:RP ((wc.alloc (Ce #[E Z z.op,E Z z.a,E Z z.b,E Z z.c,E J z.v,E Z z.m,E Z z.w] 111)).drew) R rb (.slice Ac st.code.length cc) vl vn aN { st with wants:=st.wants++lF.map (fun t=>(st.code.length,ln,t))} ln:=(h4.below ((Below.refl _ _).alloc (Nat.le_refl _) _)).zk fun _ _=>rfl;have K0:Keeps (gI R (.slice Ac st.code.length cc) vl vn vw) w ((wc.alloc (Ce #[E Z z.op,E Z z.a,E Z z.b,E Z z.c,E J z.v,E Z z.m,E Z z.w] 111)).drew):=((Qj.out.trans h6 (fun k hh=>hh.elim (fun e=>Or.inr Y1) Or.inl)).alloc _).drew;exact J39):zP:=h
theorem a80.zwn (h:zP:=by
 have iX: ¬(g=w.heap.size∨gI R vc vl vn vw g):=by
  rintro (e|e)
  ·omega
  ·exact HG.out e
 have cW:(wr.drew).cell? ⟨g,j+1,O⟩=V (.string S):=(h6.drew.cell (p:=⟨g,j+1,O⟩) (by have:=dF.out;show g<w3.heap.size;omega) iX).trans (by rw[Nat.add_comm j 1,hW3.out j nG,hS];rfl);obtain ⟨go,co',eo,go1,go2,go3,OA,_⟩:=Vw aK.out Y1;injection eo with eo1 eo2 eo3
 subst eo1;subst eo3;have hko:((Zk op).map za0).map (fun k=>(Value.int Z k))=((Zk op).map za0).map (fun k=>(Value.int Z k)):=rfl;have cK:(wr.drew).cell? ⟨go,j,O⟩=V (E Z (za0 (Zk op)[j])):=(h6.drew.cell (p:=⟨go,j,O⟩) go2 (by
  have:=dF.out
  rintro (e|e)
  ·have e':go=w.heap.size:=e
   omega
  ·have:=HP.out.of_lt e
   have e':go<w.heap.size:=this
   omega)).trans ((OA j Y1).trans (by simp[hjk]))
 have wP:=Y0 (zny (w:=wr.drew) (h4.zk fun _ _=>rfl) (by have:=h6.size;have:=dF.out;show rb≤wr.heap.size;omega) (by
  intro h
  rcases zhX h7 h with h|h
  ·exact yV.out h
  ·have:=dF.out;omega) (X:=w.heap.size) (x:=y) h5 S Y85 (Zk op)[j] (zao op _ (List.getElem_mem _)) (y:=y') (o:=o2) (by rw[fJ];exact s1) (by have:=iZ.out;show st.code.length≤100000;omega) (by have:=IB.out;simp;omega))
 have cu:Hid (∀e w',Ve wr.drew R rb vc vl vn aN { st with wants:=st.wants++l.map (fun t=>(st.code.length,ln,t))} ln w.heap.size y' o2 e w'→e=Rt (Y none)∧zgF w3 R rb w.heap.size ln vc vl vn vw st (Zk op) ws yF lF (j+1) w'):=Y0 (fun e w' h=>zii h3 h6.drew h7 s2 (by rw[h2,s3]) h);have hwr:IntKind.i64.wrap ((j:Int)+1)=(j:Int)+1:=IntWalk.i64_in _ Y1;have hwb:(j:Int)+1<(n:Int)+1:=Y1;have hw0:(0:Int)≤(j:Int)+1:=Y1;have hwt:((j:Int)+1).toNat=j+1:=Y1;clear h1 h2 h3 h4 h5 h6 h7 s1 s2 s3 fJ hS nG HT iX OA hko eo2;generalize za0 (Zk op)[j]=kj at cK wP;clear hjk;go_wp2_with fail;go_still_tail 10,Y4;change wpList _ _ _ _ _ wr.drew;generalize wr.drew=wd at cK cW wP cu ⊢;go_wp2_with fail;refine wP.out.mono ?_;intro e w' hout;obtain ⟨he,dO⟩:=cu.out e w' hout;exact zx5):zP:=h
open a80 in
theorem zcY {w:World} {R rb g cap ln:Nat} {vc vl vn vw:Value} {st:St} (hP:RP w R rb vc vl vn vw st ln) (hrb:rb≤w.heap.size) (hg: ¬gI R vc vl vn vw g) (hgl:g<w.heap.size) {w0:Str} {ws:List Str} (hcell: ∀k (hk:k<(w0::ws).length),w.cell? ⟨g,k,O⟩=V (vD (w0::ws)[k])) (hcap:(w0::ws).length≤cap) (hw0:0<w0.length∧w0.length≤100000) (hnl: ¬(ws= []∧w0.getLast?=some 58)) (hop:KH w0≠0) (hop2:1≤KH w0∧KH w0≤58) (hwn:ws.length≤100000) (hws: ∀x∈ws,x.length≤100000) {yF z:zx} {lF:List Str} (hopd:ZA { op:=KH w0} (Zk (KH w0)) ws=V (yF,lF)) (hmk:(ws.length=(Zk (KH w0)).length∧yF=z)∨(ws.length=(Zk (KH w0)).length+1∧ ∃r,ws[(Zk (KH w0)).length]?=V (33::r)∧Gb yF (33::r)=some z)) (hcn:st.code.length≤90000) (hwl:st.wants.length≤90000):
  Calls Tp 32 #[Y (V ⟨R,0,O⟩),Sl (V ⟨g,0,O⟩) (w0::ws).length cap] w (Bg w R rb vc vl vn vw { st with code:=st.code++ [z],wants:=st.wants++lF.map (fun t=>(st.code.length,ln,t))} ln):=by
 have iZ:=Y0 hcn;have HWn:=Y0 hwn;have IB:=Y0 hwl;have oQ:=Y0 hopd;have yU:=Y0 hws;have lY:=Y0 hmk;have HP:=Y0 hP;have HG:=Y0 hg;have HC:=Y0 hcell;have iR:=Y0 hop;have wR:=Y0 hop2;obtain ⟨n,hn⟩: ∃n,n=ws.length:=⟨_,rfl⟩;have dV:(n:Int)≤100000:=Y1;have dW:=Y0 hn;obtain ⟨W0,hW0⟩: ∃W0:ByteArray,W0=⟨w0.toArray⟩:=⟨_,rfl⟩;have c0:w.cell? ⟨g,0,O⟩=V (.string W0):=by rw[hW0];exact hcell 0 Y7
 have hz0:W0.size=w0.length:=by rw[hW0];rfl
 have cZ:W0.data.toList=w0:=by rw[hW0]
 have nL:(W0.size:Int)≤100000:=Y1;have sZ:(1:Int)≤(W0.size:Int):=Y1;have hl:W0.size - 1<W0.size:=Y1;have wI:Hid ((((W0[W0.size - 1]'hl).toNat:Int)==58)=false∨((((W0[W0.size - 1]'hl).toNat:Int)==58)=true∧((n:Int)+1==1)=false)):=Y0 (by
  by_cases Da:W0[W0.size - 1]'hl=58
  ·right
   refine ⟨by rw[beq_iff_eq];exact (Zx _ 58).2 Da,beq_eq_false_iff_ne.2 fun e=>hnl ⟨List.length_eq_zero_iff.1 Y1,?_⟩⟩
   have h3:=ZY W0 (W0.size - 1) hl
   rw[Da,cZ] at h3
   rw[List.getLast?_eq_getElem?,←hz0]
   exact h3
  ·left
   rw[beq_eq_false_iff_ne]
   intro e
   exact Da ((Zx _ 58).1 e))
 have hlen:(w0::ws).length=n+1:=by rw[hn];rfl
 rw[hlen] at hcap ⊢;have uo:=Y0 cZ;have fF:=Y0 hlen;clear hopd hws hmk hP hg hcell hop hop2 hn hW0 hz0 cZ hnl hlen hw0 hcn hwn hwl;go_enter Tryz.func32,Tryz.ntmps32;go_upto_region 2 with fail;go_cut [29] (fun cc wx=>cc= .bool false∧w=wx);case first=>
  rcases wI.out with t1|⟨t1,t2⟩
  ·go_wp2_with fail;all_goals
    go_meet
    exact ⟨rfl,rfl⟩
  ·go_wp2_with fail;all_goals
    go_meet
    exact ⟨rfl,rfl⟩
 case rest=>
  obtain ⟨rfl,hwc⟩:=hcut;subst hwc;go_wp2_with fail;refine (zlv _).mono ?_;rintro e w2 ⟨rfl,hw2⟩;have BW:Below w.heap.size w w2:=by rw[hw2];exact ((Below.refl _ w).alloc (Nat.le_refl _) _).alloc Y7 _
  have hX2:zT w2 w.heap.size {}:=by
   rw[hw2];exact (((Below.refl (w.alloc (Ce #[E Z 0,E Z 0,E Z 0,E Z 0,E J 0,E Z 0,E Z 0] 111)).heap.size (w.alloc (Ce #[E Z 0,E Z 0,E Z 0,E Z 0,E J 0,E Z 0,E Z 0] 111))).alloc (Nat.le_refl _) (.cells zhM 9)).block _ Y7).trans (heap_alloc_new w _)
  have OP: ∀i (hi:i<zN.length),w2.cell? ⟨w.heap.size+1,i,O⟩=V (vD zN[i]):=by
   intro i hi;rw[hw2];refine (World.cell?_alloc_at _ _ _ _ Y7).trans ?_;unfold zhM;simp[hi]
  have hz2:w2.heap.size=w.heap.size+1+1:=by rw[hw2];simp
  clear hw2;have dM:=Y0 BW;have lC:=Y0 hX2;have Hy:=Y0 OP;have CK:=Y0 hz2;clear BW hX2 OP hz2;go_wp2_with fail;go_loopw [10] (fun iv wr=> ∃i:Nat,i≤58∧iv=E Z i∧Hid (zT wr w.heap.size { op:=zaB w0 i}∧Keeps (fun k=>k=w.heap.size) w2 wr)) (fun iv _=>58 - (intOf iv).toNat);case atStart=>exact ⟨0,by omega,rfl,Y0 ⟨by rw[zk1];exact lC.out,Keeps.refl _ _⟩⟩
  case round=>
   obtain ⟨i,hi,rfl,HI⟩:=hrel;have dH:(i:Int)≤58:=Y1;by_cases hlt:i<58
   ·have aH:(i:Int)<58:=Y1;have DX:i<zN.length:=by rw[zd8];exact hlt
    obtain ⟨x1,k1⟩:=HI.out;obtain ⟨N,hN⟩: ∃N:ByteArray,N=⟨(zN[i]).toArray⟩:=⟨_,rfl⟩;have Lm:N.data.toList=zN[i]:=by rw[hN]
    have cN:wr.cell? ⟨w.heap.size+1,i,O⟩=V (.string N):=(k1.cell (p:=⟨w.heap.size+1,i,O⟩) (by rw[CK.out];simp) Y7).trans (by rw[Hy.out i DX,hN];rfl);obtain ⟨o0,o1,o2,o3,o4,o5,o6,of⟩:=x1.cell;have hxl:=x1.lt;by_cases he:zN[i]?=some w0
    ·have hq:(N.toList==W0.toList)=true:=by
      rw[ZF,ZF,Lm,uo.out,beq_iff_eq];rw[List.getElem?_eq_getElem DX] at he;exact Option.some.inj he
     have cu:Hid (zT (wr.setCell ⟨w.heap.size,0,O⟩ (E Z (1+(i:Int)))) w.heap.size { op:=zaB w0 (i+1)}∧Keeps (fun k=>k=w.heap.size) w2 (wr.setCell ⟨w.heap.size,0,O⟩ (E Z (1+(i:Int))))):=Y0 ⟨by
      rw[zpU he DX,Int.add_comm]
      exact zy x1 _,k1.setCell (p:=⟨w.heap.size,0,O⟩) rfl _⟩
     exact zxs
    ·have hq:(N.toList==W0.toList)=false:=by
      rw[ZF,ZF,Lm,uo.out,beq_eq_false_iff_ne];intro e;exact he (by rw[List.getElem?_eq_getElem DX,e])
     have cu:Hid (zT wr w.heap.size { op:=zaB w0 (i+1)}∧Keeps (fun k=>k=w.heap.size) w2 wr):=Y0 ⟨by rw[zl3 he];exact x1,k1⟩;exact zxs
   ·obtain rfl:i=58:=Y1;obtain ⟨x1,k1⟩:=HI.out;rw[zqA] at x1;have Oh:=Y0 x1;have fE:=Y0 k1;generalize KH w0=op at oQ iR wR lY Oh x1 ⊢;have Ms:(op==0)=false:=beq_eq_false_iff_ne.2 iR.out;obtain ⟨o0,o1,o2,o3,o4,o5,o6,of⟩:=x1.cell;have hxl:=x1.lt;have oU:=Y0 (znH op wR.out.1 wR.out.2 wr);clear x1 k1 HI;go_wp2_with fail;refine oU.out.mono ?_;rintro e w3 ⟨v,rfl,hrow,hb3⟩;obtain ⟨Ao,co,rfl⟩:=zn hrow;obtain ⟨q,hq⟩: ∃q,q=(Zk op).length:=⟨_,rfl⟩;have hrl:((Zk op).map za0).length=q:=by rw[List.length_map,hq]
    rw[hrl] at hrow ⊢;have hq3:q≤3:=by rw[hq];exact zc3 op
    have TF:(q:Int)≤3:=Y1;have HQ:=Y0 hq;have aK:=Y0 hrow;have aY:=Y0 hb3;clear hq hrow hb3 hrl o0 o1 o2 o3 o4 o5 o6 of hxl oU;have hW3:Hid (∀k (hk:k<ws.length),w3.cell? ⟨g,1+k,O⟩=V (vD ws[k])):=Y0 (fun k hk=>by
     have e1:=dM.out.cell (p:=⟨g,1+k,O⟩) hgl
     have e2:=fE.out.cell (p:=⟨g,1+k,O⟩) (by rw[CK.out];simp;omega) Y8
     have e3:=aY.out.cell (p:=⟨g,1+k,O⟩) (by have:=fE.out.size;rw[CK.out] at this;simp;omega)
     rw[e3,e2,e1,Nat.add_comm]
     exact HC.out (k+1) Y8)
    obtain ⟨mk,hmk⟩: ∃mk:Bool,(mk=false∧n=q∧yF=z)∨(mk=true∧n=q+1∧ ∃r,ws[q]?=V (33::r)∧Gb yF (33::r)=some z):=by
     have e1:=dW.out;have e2:=HQ.out;rcases lY.out with ⟨h,h2⟩ |⟨h,h2⟩
     ·exact ⟨false,Or.inl ⟨rfl,by omega,h2⟩⟩
     ·rw[←e2] at h2;exact ⟨true,Or.inr ⟨rfl,by omega,h2⟩⟩
    have mX:=Y0 hmk;clear lY hmk;go_upto_region 20 with fail;go_cut [12] (fun cc wx=>cc= .bool mk∧w3=wx);case first=>
     rcases mX.out with ⟨rfl,rfl,_⟩ |⟨rfl,hn,r,hr,_⟩
     ·have t1:((n:Int)+1==(n:Int)+2)=false:=beq_eq_false_iff_ne.2 Y1;go_wp2_with fail;go_meet;exact ⟨rfl,rfl⟩
     ·have t1:((n:Int)+1==(q:Int)+2)=true:=beq_iff_eq.2 Y1;obtain ⟨S,hS⟩: ∃S:ByteArray,S=⟨(33::r).toArray⟩:=⟨_,rfl⟩;have hSz:0<S.size:=by rw[hS];exact Nat.succ_pos _
      have t3:(((S[0]'hSz).toNat:Int)==33)=true:=by
       rw[beq_iff_eq];exact zyB
      have sD:q<ws.length:=by rw[←dW.out];omega
      have cQ:w3.cell? ⟨g,n,O⟩=V (.string S):=by
       rw[hn,Nat.add_comm q 1,hW3.out q sD];rw[List.getElem?_eq_getElem sD] at hr;rw[Option.some.inj hr,hS];rfl
      clear hr hS hn sD;go_wp2_with fail;go_meet;exact ⟨rfl,rfl⟩
    case rest=>
     obtain ⟨rfl,hwc⟩:=hcut;subst hwc;go_upto_region 21 with fail;go_cut [131] (fun cc wx=>cc= .bool false∧w3=wx);case first=>
      rcases mX.out with ⟨rfl,rfl,_⟩ |⟨rfl,rfl,r,_⟩
      ·go_wp2_with fail;go_meet;exact ⟨rfl,rfl⟩
      ·have t1:((q:Int)+1+1 !=(q:Int)+1)=true:=by rw[bne_iff_ne];omega
       go_wp2_with fail;go_meet;exact ⟨rfl,rfl⟩
     case rest=>
      obtain ⟨rfl,hwc⟩:=hcut;subst hwc;have dF:Hid (w.heap.size<w2.heap.size∧w2.heap.size≤wr.heap.size∧wr.heap.size≤w3.heap.size):=Y0 ⟨by rw[CK.out];omega,fE.out.size,aY.out.size⟩;have Ag:Keeps (gI R vc vl vn vw) w w3:=((Keeps.zO dM.out).trans fE.out (fun k e=>Or.inr Y1)).trans (Keeps.zO (X:=gI R vc vl vn vw) aY.out) (fun k e=>Or.inl e);have hP3:RP w3 R rb vc vl vn vw st ln:=HP.out.zk fun k hk=>by
       have h1:=HP.out.of_lt hk;rw[aY.out.block k (by have:=dF.out;omega),fE.out.block k (by have:=dF.out;omega) (by show k≠w.heap.size;omega),dM.out.block k h1]
      have OW:zT w3 w.heap.size { op:=op}:=(aY.out.block _ (by have:=dF.out;omega)).trans Oh.out;have Qj:=Y0 Ag;have hX0: ¬gI R vc vl vn vw w.heap.size:=fun h=>by have:=HP.out.of_lt h;omega
      have yV:=Y0 hX0;have H0:Hid (zgF w3 R rb w.heap.size ln vc vl vn vw st (Zk op) ws yF lF 0 w3):=Y0 ⟨_,[],lF,vw,oQ.out,rfl,Nat.le_refl _,by simpa using hP3,OW,Keeps.refl _ _,fun k h=>Or.inl h⟩;clear Ag hP3 OW hX0;go_wp2_with fail;go_loopw [13] (fun cv wq=> ∃j:Nat,j≤q∧cv=E Z j∧Hid (zgF w3 R rb w.heap.size ln vc vl vn vw st (Zk op) ws yF lF j wq)) (fun cv _=>q - (intOf cv).toNat);case atStart=>exact ⟨0,by omega,rfl,H0⟩
      case round=>
       obtain ⟨j,hj,rfl,HT⟩:=hrel;have Am:(j:Int)≤(q:Int):=Y1;by_cases hlt2:j<q
       ·have aH:(j:Int)<(q:Int):=Y1;obtain ⟨y,l,lr,aN,h1,h2,h3,h4,h5,h6,h7⟩:=HT.out;have hjk:j<(Zk op).length:=by rw[←HQ.out];exact hlt2
        exact zwk
       ·obtain rfl:j=q:=Y1;have oh:=Y0 (zlH HT.out HQ.out);clear HT;go_upto_if 154 with fail;go_cut [15] (fun _ wx=>Hid (zen w3 R rb w.heap.size ln vc vl vn vw st z lF wx));case first=>
         rcases mX.out with ⟨rfl,hn,hz⟩ |⟨rfl,hn,r,hr,hm⟩
         ·have HZ:=Y0 hz;clear hn hz mX;go_wp2_with fail;go_meet;rw[←HZ.out];exact oh
         ·have sD:j<ws.length:=by rw[←dW.out];omega
          obtain ⟨S,hS⟩: ∃S:ByteArray,S=⟨(33::r).toArray⟩:=⟨_,rfl⟩;have fJ:S.data.toList=33::r:=by rw[hS]
          obtain ⟨aN,h4,h5,h6,h7⟩:=oh.out;have iX: ¬(g=w.heap.size∨gI R vc vl vn vw g):=by
           rintro (e|e)
           ·omega
           ·exact HG.out e
          have cW:wr.cell? ⟨g,n,O⟩=V (.string S):=(h6.cell (p:=⟨g,n,O⟩) (by have:=dF.out;show g<w3.heap.size;omega) iX).trans (by
           rw[hn,Nat.add_comm j 1,hW3.out j sD]
           rw[List.getElem?_eq_getElem sD] at hr
           rw[Option.some.inj hr,hS];rfl)
          have LG:w.heap.size<w3.heap.size:=by have:=dF.out;omega
          have Ht:=Y0 (zmt R w.heap.size yF z S ln wr (fun e=>by have:=HP.out.lt;omega) h4.cell.2.2.2.2.1 h5 (by rw[fJ];exact hm) (by
           rw[←zL,fJ]
           rw[List.getElem?_eq_getElem sD] at hr
           have:=yU.out _ (List.getElem_mem sD)
           rw[Option.some.inj hr] at this
           omega))
          clear hn hr hm hS fJ h4 h5 h6 h7 sD mX iX;go_wp2_with fail;refine Ht.out.mono ?_;rintro e w' ⟨rfl,hz,hk⟩;have HZ:=Y0 (zf3 oh.out LG yV.out hz hk);clear hz hk;go_wp2_with fail;go_meet;exact HZ
        case rest=>
         exact zwj
end Asm
end Go.Proofs.YtdlpmnmenhojfaaGreatDoor
