/- Part 29 of what the proof stands on: RefPlace. -/
import Derived.Test.YtdlpmnmenhojfaaGreatDoorR10
import Derived.Test.YtdlpmnmenhojfaaGreatDoorR24
set_option linter.unusedVariables false
set_option maxHeartbeats 40000000
set_option maxRecDepth 100000
variable {zP:Prop}
namespace Go.Proofs.YtdlpmnmenhojfaaGreatDoor
open Go.IntKind renaming i64->Z,u64->J
open Go.Value renaming int->E,pointer->Y,slice->Sl
open Option renaming none->O,some->V
open Go.Obj renaming cells->Ce
open Go.Ending renaming returned->Rt
open Go.Proofs.Tryz renaming prog->Tp
namespace Asm
open Go.RowKit Go.Maps
theorem zm5:(Tryz.prog.info? 109).map (fun i=>(i.zero,i.size,i.bytes))=V (some (.agg #[E Z 0,E Z 0, .string ⟨#[]⟩]),3,32):=Y4
theorem zdV (l:List (Nat×Nat×Str)) (x:Nat×Nat×Str):Kh (l++ [x])=Kh l++ [E Z x.2.1,E Z x.1,vD x.2.2]:=by simp[Kh]
theorem zbA {w:World} {R rb ln:Nat} {vc vl vn vw:Value} {st:St} {X:Nat} {x:zx} (hP:RP w R rb vc vl vn vw st ln) (hrb:rb≤w.heap.size) (hX: ¬gI R vc vl vn vw X) (hx:zT w X x) (s:ByteArray) (hs:s.size≤100000) (k:Int) (hk:k=6∨k=8) (hn:ZC s.data.toList=true) (hc:st.code.length≤100000) (hw:st.wants.length≤100000):
  Calls Tp 73 #[Y (V ⟨R,0,O⟩),E Z k, .string s,Y (V ⟨X,0,O⟩)] w (Ve w R rb vc vl vn vw st ln X x (some s.data.toList)):=by
 have aX:=Y0 (kC s w Y1);have iQ:=Y0 (fun w=>JA s w Y1);have j6:=Y0 hn;obtain ⟨iw,hiw,qO,hsw,hbw⟩:=info_parts zm5;obtain ⟨Aw,cw,rfl⟩:=zn hP.wants;obtain ⟨Ac,cc,rfl⟩:=zn hP.code;have HP:=Y0 hP;have HX:=Y0 hx;have lZ:=Y0 hX;have ug:=Y0 hrb;have nY:=Y0 hc;have uo:=Y0 hw;clear hP hX hx hs hn hrb hc hw;rcases hk with rfl|rfl
 all_goals
  go_enter Tryz.func73,Tryz.ntmps73
  go_wp2_with fail
  refine aX.out.mono ?_
  rintro e w1 ⟨m9,rfl,hm,q,hw1⟩
  clear hm
  generalize (Zr s.data.toList).isSome=b
  go_wp2_with fail
  refine (iQ.out _).mono ?_
  rintro e w2 ⟨rfl,q2,hw2⟩
  rw[j6.out]
  have P2:RP w2 R rb (.slice Ac st.code.length cc) vl vn (.slice Aw st.wants.length cw) st ln:=HP.out.zk fun _ _=>by rw[hw2];rfl
  have K2:Keeps (gI R (.slice Ac st.code.length cc) vl vn (.slice Aw st.wants.length cw)) w w2:=by rw[hw2];exact ((Keeps.refl _ w).drewN q).drewN q2
  have X2:zT w2 X x:=by rw[hw2];exact HX.out
  have hz2:w2.heap.size=w.heap.size:=by rw[hw2];rfl
  clear hw1 hw2
  obtain ⟨r0,r1,r2,r3,r4,rf⟩:=P2.cell
  have hRl:=P2.lt
  obtain ⟨m,hm⟩: ∃m,m=st.code.length:=⟨_,rfl⟩
  have rX:(m:Int)≤100000:=by have:=nY.out;omega
  have Ti:(0:Int)≤(m:Int):=Y1
  have EY:=Y0 hm
  have h0:RP ((w2.alloc (Ce #[E Z (ln:Int),E Z (m:Int), .string s] 109)).drew) R rb (.slice Ac st.code.length cc) vl vn (.slice Aw st.wants.length cw) st ln:=(P2.below ((Below.refl _ _).alloc (Nat.le_refl _) _)).zk fun _ _=>rfl
  have K0:Keeps (gI R (.slice Ac st.code.length cc) vl vn (.slice Aw st.wants.length cw)) w ((w2.alloc (Ce #[E Z (ln:Int),E Z (m:Int), .string s] 109)).drew):=(K2.alloc _).drew
  have X0:zT ((w2.alloc (Ce #[E Z (ln:Int),E Z (m:Int), .string s] 109)).drew) X x:=(((Below.refl _ w2).alloc (Nat.le_refl _) (.cells #[E Z (ln:Int),E Z (m:Int), .string s] 109)).block X X2.lt).trans X2
  have E0:=Y0 h0.wants
  have N1:Hid (∀j u,([E Z (ln:Int),E Z (m:Int), .string s]:List Value)[j]?=some u→(((w2.alloc (Ce #[E Z (ln:Int),E Z (m:Int), .string s] 109)).drew)).cell? ((⟨w2.heap.size,0,O⟩:Addr).add j)=some u):=Y0 (by
   intro j u hu
   rw[Addr.add_lit,Nat.zero_add]
   exact (World.cell?_alloc_at _ _ _ _ rfl).trans Y23)
  have O1:Hid (∀u∈([E Z (ln:Int),E Z (m:Int), .string s]:List Value),u.oneCell'=true):=Y0 (by
   intro u hu
   simp at hu
   rcases hu with rfl|rfl|rfl<;>rfl)
  have M1:=Y0 (show st.wants.length+1≤maxLen by have:=uo.out;unfold maxLen;omega)
  have M2:=Y0 (show (st.wants.length+1)*32≤140737488355328 by have:=uo.out;omega)
  have M3:=Y0 (show rb≤(((w2.alloc (Ce #[E Z (ln:Int),E Z (m:Int), .string s] 109)).drew)).heap.size by have:=ug.out;show rb≤(w2.alloc _).heap.size;simp;omega)
  have HV:Hid (some R≠(Value.slice Aw st.wants.length cw).ownBlock):=Y0 (own_ne h0.wants h0.vO Y2)
  have aD:Hid (∀v' w3,w3.ownsRow rb 109 3 v' (st.wants.length+1) (Kh st.wants++ [E Z (ln:Int),E Z (m:Int), .string s])→(((w2.alloc (Ce #[E Z (ln:Int),E Z (m:Int), .string s] 109)).drew)).grownBy w3 (Value.slice Aw st.wants.length cw).ownBlock→(v'.ownBlock=(Value.slice Aw st.wants.length cw).ownBlock∨v'.ownBlock=V (((w2.alloc (Ce #[E Z (ln:Int),E Z (m:Int), .string s] 109)).drew)).heap.size)→
    Ve w R rb (.slice Ac st.code.length cc) vl vn (.slice Aw st.wants.length cw) st ln X x (some s.data.toList) (.returned (Y none)) (w3.setCell ⟨R,3,O⟩ v')):=Y0 (fun v' w3 hr hg hnew=>by
   have hr2:w3.ownsRow rb 109 3 v' (st.wants++ [(st.code.length,ln,s.data.toList)]).length (Kh (st.wants++ [(st.code.length,ln,s.data.toList)])):=by
    rw[zdV,zj8,List.length_append,←hm];exact hr
   have hadd:=h0.JU _ hg hr2
   have hK3:Keeps (gI R (.slice Ac st.code.length cc) vl vn (.slice Aw st.wants.length cw)) w (w3.setCell ⟨R,3,O⟩ v'):=(K0.grown hg (fun k e=>Or.inr (Or.inr (Or.inr (Or.inr e))))).setCell (p:=⟨R,3,O⟩) (Or.inl rfl) _
   refine ⟨rfl,HX.out.keeps hK3 lZ.out,v',hadd,hK3.mono (fun _ h=>Or.inr h),fun k hk=>?_⟩
   rcases hnew with e|e
   ·exact Or.inl (e▸hk)
   ·right
    rw[e] at hk
    have h2:(w2.alloc (Ce #[E Z (ln:Int),E Z (m:Int), .string s] 109)).heap.size=k:=Option.some.inj hk
    simp at h2
    omega)
  have HC:Hid (∀w3:World,(((w2.alloc (Ce #[E Z (ln:Int),E Z (m:Int), .string s] 109)).drew)).grownBy w3 (Value.slice Aw st.wants.length cw).ownBlock→w3.cell? ⟨R,3,O⟩=V (.slice Aw st.wants.length cw)∧w3.frozen? ⟨R,3,O⟩=false):=Y0 (fun w3 hg=>by
   have hb:=hg.block R h0.lt HV.out
   exact ⟨(World.cell?_of_block (a:=⟨R,3,O⟩) hb).trans h0.cell.2.2.2.1,(World.frozen?_of_block (a:=⟨R,3,O⟩) hb).trans (h0.cell.2.2.2.2.2 3)⟩)
  rw[←hm] at r0
  generalize hzz:st.wants.length=z at r3 E0 M1 M2 HV aD HC
  have Fj:=Y0 hzz
  clear hzz
  clear P2 K2 X2 hm h0 K0 X0 hz2
  go_wp2_with fail
  go_region_law (first|(refine Zw _ rfl (.tmp 54) (.tmp 66) 101 rfl rb 109 iw _ 3 32 Tryz.underlying101 hiw qO hsw hbw rfl Y2 (.slice Aw z cw) z (Kh st.wants) Y20 E0.out ⟨w2.heap.size,0,O⟩ 1 1 [E Z (ln:Int),E Z (m:Int), .string s] Y20 rfl N1.out O1.out M1.out M2.out M3.out ?_;intro v' w3 hown' hgrow hnew;obtain ⟨A',c',rfl⟩:=zn hown';have tt:=HC.out w3 hgrow;have t0:=tt.1;have t1:=tt.2;have HF:=Y0 (aD.out _ _ hown' hgrow hnew);clear hown' hgrow hnew tt))
  all_goals
   go_wp2
   go_ret
   have ez:=Fj.out
   subst ez
   exact HF.out
theorem a78.zxe (h:zP:=by
 exact zmu hR hX hx s hs r hr):zP:=h
theorem a78.zws (h:zP:=by
 exact zqb hR hX hx s hs r hr):zP:=h
open a78 in
theorem zny {w:World} {R rb ln:Nat} {vc vl vn vw:Value} {st:St} {X:Nat} {x:zx} (hR:RP w R rb vc vl vn vw st ln) (hrb:rb≤w.heap.size) (hX: ¬gI R vc vl vn vw X) (hx:zT w X x) (s:ByteArray) (hs:s.size≤100000) (k:Int) (hk:1≤k∧k≤9) {y:zx} {o:Option Str} (h:KZ x k s.data.toList=V (y,o)) (hc:st.code.length≤100000) (hw:st.wants.length≤100000):
  Calls Tp 73 #[Y (V ⟨R,0,O⟩),E Z (za0 k), .string s,Y (V ⟨X,0,O⟩)] w (Ve w R rb vc vl vn vw st ln X y o):=by
 unfold KZ at h;obtain rfl|rfl|rfl|rfl|rfl|rfl|rfl|rfl|rfl:k=1∨k=2∨k=3∨k=4∨k=5∨k=6∨k=7∨k=8∨k=9:=Y1
 ·simp only[if_true] at h;obtain ⟨r,hr,e⟩:=Option.map_eq_some_iff.1 h;injection e with e1 e2
  subst e1 e2;exact zlc hR hX hx s hs r hr
 ·simp only[show ((2:Int)=1)=False by simp,if_false,if_true] at h;obtain ⟨r,hr,e⟩:=Option.map_eq_some_iff.1 h;injection e with e1 e2
  subst e1 e2;exact zlJ hR hX hx s hs r hr
 ·simp only[show ((3:Int)=1)=False by simp,show ((3:Int)=2)=False by simp,if_false,if_true] at h;obtain ⟨r,hr,e⟩:=Option.map_eq_some_iff.1 h;injection e with e1 e2
  subst e1 e2;exact zlk hR hX hx s hs r hr
 ·simp only[show ((4:Int)=1)=False by simp,show ((4:Int)=2)=False by simp,show ((4:Int)=3)=False by simp,if_false,if_true] at h
  cases hr:Zr s.data.toList with
  |some r=>
   rw[hr] at h;injection h with h
   injection h with e1 e2
   subst e1 e2;exact znh hR hX hx s hs r hr
  |none=>
   rw[hr] at h;obtain ⟨v,hv,e⟩:=Option.map_eq_some_iff.1 h;injection e with e1 e2
   subst e1 e2;exact zld hR hX hx s hs v hr hv
 ·simp only[show ((5:Int)=1)=False by simp,show ((5:Int)=2)=False by simp,show ((5:Int)=3)=False by simp,show ((5:Int)=4)=False by simp,if_false,if_true] at h
  cases hr:Zr s.data.toList with
  |some r=>
   rw[hr] at h;injection h with h
   injection h with e1 e2
   subst e1 e2;exact zkR hR hX hx s hs r hr
  |none=>
   rw[hr] at h;obtain ⟨v,hv,e⟩:=Option.map_eq_some_iff.1 h;injection e with e1 e2
   subst e1 e2;exact zm6 hR hX hx s hs v hr hv
 ·exact zyf
 ·exact zxL
 ·simp only[show ((8:Int)=1)=False by simp,show ((8:Int)=2)=False by simp,show ((8:Int)=3)=False by simp,show ((8:Int)=4)=False by simp,show ((8:Int)=5)=False by simp,show ((8:Int)=6)=False by simp,show ((8:Int)=7)=False by simp,if_false,if_true] at h
  cases hn:ZC s.data.toList with
  |true=>
   rw[hn] at h;simp only[if_true] at h;injection h with h
   injection h with e1 e2
   subst e1 e2;exact zbA hR hrb hX hx s hs 6 (Or.inl rfl) hn hc hw
  |false=>rw[hn] at h;simp at h
 ·simp only[show ((9:Int)=1)=False by simp,show ((9:Int)=2)=False by simp,show ((9:Int)=3)=False by simp,show ((9:Int)=4)=False by simp,show ((9:Int)=5)=False by simp,show ((9:Int)=6)=False by simp,show ((9:Int)=7)=False by simp,show ((9:Int)=8)=False by simp,if_false] at h
  cases hn:ZC s.data.toList with
  |true=>
   rw[hn] at h;simp only[if_true] at h;injection h with h
   injection h with e1 e2
   subst e1 e2;exact zbA hR hrb hX hx s hs 8 (Or.inr rfl) hn hc hw
  |false=>
   rw[hn] at h;simp only[Bool.false_eq_true,if_false] at h;obtain ⟨r,hr,e⟩:=Option.map_eq_some_iff.1 h;injection e with e1 e2
   subst e1 e2;exact zjv hR hX hx s hs r hn hr
end Asm
end Go.Proofs.YtdlpmnmenhojfaaGreatDoor
