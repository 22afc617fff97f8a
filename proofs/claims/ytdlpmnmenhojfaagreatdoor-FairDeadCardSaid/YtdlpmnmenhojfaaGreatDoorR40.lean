/- Part 40 of what the proof stands on: RefC. -/
import Derived.Test.YtdlpmnmenhojfaaGreatDoorR33
set_option linter.unusedVariables false
set_option maxHeartbeats 40000000
set_option maxRecDepth 100000
variable {zP:Prop}
namespace Go.Proofs.YtdlpmnmenhojfaaGreatDoor
open Go.IntKind renaming i64->Z,u64->J
open Go.Value renaming int->E,pointer->Y,slice->Sl
open Option renaming none->O,some->V
open Go.Obj renaming cells->Ce
open Go.Ending renaming returned->Rt
open Go.Proofs.Tryz renaming prog->Tp
namespace Asm
open Go.RowKit Go.Maps PosTab
theorem zpK {w:World} {base n c:Nat} {A:Option Addr} {l:List (Str×Nat)} {e:TypeId} (h:w.ownsRow base e 2 (.slice A n c) l.length (ZO l)):za7 w A l:=by
 exact zwD
theorem zhY:(Tryz.prog.info? 113).map (fun i=>(i.zero,i.size,i.bytes))=V (some (.agg #[.string ⟨#[]⟩,E Z 0]),2,24):=Y4
theorem zyK.zwS (h:zP:=by
 have h6:RP ((w5.alloc (Ce #[E Z (ln:Int)] 3)).drew) R rb (.slice Ac st.code.length cc) (.slice A' (st.labels.length+1) c') (.slice An st.lines.length cn) vw { st with labels:=st.labels++ [(w0.dropLast,st.code.length)]} ln:=(R5.below ((Below.refl _ _).alloc (Nat.le_refl _) _)).zk fun _ _=>rfl;have K6:Keeps (gI R (.slice Ac st.code.length cc) (.slice Al st.labels.length cl) (.slice An st.lines.length cn) vw) w ((w5.alloc (Ce #[E Z (ln:Int)] 3)).drew):=(K5.alloc _).drew;have E6:Hid ((((w5.alloc (Ce #[E Z (ln:Int)] 3)).drew)).ownsRow rb 3 1 (.slice An st.lines.length cn) st.lines.length (kW st.lines)):=Y0 h6.lines;have N6:Hid (∀j u,([E Z (ln:Int)]:List Value)[j]?=some u→(((w5.alloc (Ce #[E Z (ln:Int)] 3)).drew)).cell? ((⟨w5.heap.size,0,O⟩:Addr).add j)=some u):=Y0 (by
  intro j u hu
  rw[Addr.add_lit,Nat.zero_add]
  exact (World.cell?_alloc_at _ _ _ _ rfl).trans Y23)
 have O6:Hid (∀u∈([E Z (ln:Int)]:List Value),u.oneCell'=true):=Y0 (by
  intro u hu
  simp at hu
  subst hu;rfl)
 have IU:=Y0 (show st.lines.length+1≤maxLen by have:=fU.out;unfold maxLen;omega);have IV:=Y0 (show (st.lines.length+1)*8≤140737488355328 by have:=fU.out;omega);have IW:=Y0 (show rb≤(((w5.alloc (Ce #[E Z (ln:Int)] 3)).drew)).heap.size by have:=ug.out;show rb≤(w5.alloc _).heap.size;simp;omega);have Iz:Hid (some R≠(Value.slice An st.lines.length cn).ownBlock):=Y0 (own_ne h6.lines h6.vO Y2);have wH:Hid (∀v' w8,w8.ownsRow rb 3 1 v' (st.lines.length+1) (kW st.lines++ [E Z (ln:Int)])→(((w5.alloc (Ce #[E Z (ln:Int)] 3)).drew)).grownBy w8 (Value.slice An st.lines.length cn).ownBlock→(v'.ownBlock=(Value.slice An st.lines.length cn).ownBlock∨v'.ownBlock=V (((w5.alloc (Ce #[E Z (ln:Int)] 3)).drew)).heap.size)→
   Bg w R rb (.slice Ac st.code.length cc) (.slice Al st.labels.length cl) (.slice An st.lines.length cn) vw { st with labels:=st.labels++ [(w0.dropLast,st.code.length)],lines:=st.lines++ [ln]} ln (.returned (Y none)) (w8.setCell ⟨R,2,O⟩ v')):=Y0 (fun v' w8 hr hg hnew=>by
  have hr2:w8.ownsRow rb 3 1 v' (st.lines++ [ln]).length (kW (st.lines++ [ln])):=by
   rw[zaj,List.length_append];exact hr
  have hadd:=h6.Jy ln hg hr2
  refine ⟨rfl,_,_,v',_,hadd,(K6.grown hg (fun k e=>Or.inr (Or.inr (Or.inr (Or.inl e))))).setCell (p:=⟨R,2,O⟩) (Or.inl rfl) _,fun k hk=>?_⟩
  rcases hk with e|e|e|e|e
  ·exact Or.inl (Or.inl e)
  ·exact Or.inl (Or.inr (Or.inl e))
  ·rcases O5 k e with e|e
   ·exact Or.inl (Or.inr (Or.inr (Or.inl e)))
   ·exact Or.inr e
  ·rcases hnew with e2|e2
   ·exact Or.inl (Or.inr (Or.inr (Or.inr (Or.inl (e2▸e)))))
   ·right
    rw[e2] at e
    have h2:(w5.alloc (Ce #[E Z (ln:Int)] 3)).heap.size=k:=Option.some.inj e
    simp at h2
    omega
  ·exact Or.inl (Or.inr (Or.inr (Or.inr (Or.inr e)))))
 have FV:Hid (∀w8:World,(((w5.alloc (Ce #[E Z (ln:Int)] 3)).drew)).grownBy w8 (Value.slice An st.lines.length cn).ownBlock→w8.cell? ⟨R,2,O⟩=V (.slice An st.lines.length cn)∧w8.frozen? ⟨R,2,O⟩=false):=Y0 (fun w8 hg=>by
  have hb:=(hg.block R h6.lt Iz.out).trans h6.obj
  exact ⟨by simp[World.cell?,hb],by simp[World.frozen?,hb]⟩)
 clear R5 K5 O5 h6 K6 hs5;go_wp2_with fail;go_region_law (first|(refine Zw _ rfl (.tmp 72) (.tmp 77) 76 rfl rb 3 ii _ 1 8 Tryz.underlying76 hii hzi hsi hbi rfl Y2 (.slice An st.lines.length cn) st.lines.length (kW st.lines) Y20 E6.out ⟨w5.heap.size,0,O⟩ 1 1 [E Z (ln:Int)] Y20 rfl N6.out O6.out IU.out IV.out IW.out ?_;intro v' w8 hown' hgrow hnew;obtain ⟨A6,c6,rfl⟩:=zn hown';have tt:=FV.out w8 hgrow;have t0:=tt.1;have t2:=tt.2;have HF:=Y0 (wH.out _ _ hown' hgrow hnew);clear hown' hgrow hnew tt));all_goals
  go_wp2
  go_ret
  exact HF.out):zP:=h
theorem zyK.zyL (h:zP:=by
 have ng:=Y0 fA;have Ir:=Y0 hT;have xJ:T.size≤100000:=by
  rw[←zL,fA,List.length_dropLast];omega
 have dh:=Y0 (zde Al cl st.labels T w (zpK hP.labels) Y1);rw[fA,hno] at dh;have E8:=Y0 (JA T w Y1);rw[fA,hnm] at E8;obtain ⟨m,hm⟩: ∃m,m=st.code.length:=⟨_,rfl⟩;have rX:(m:Int)≤100000:=Y1;have EY:=Y0 hm;have hRl:=hP.lt;obtain ⟨r0,r1,r2,r3,r4,rf⟩:=hP.cell;clear hP hrb hcell hw0 hl58 hnm hno hcn hll hli hW0 hz0 cZ hT fA xJ hm;go_enter Tryz.func32,Tryz.ntmps32;go_wp2_with fail;rw[←Ir.out];refine dh.out.mono ?_;rintro e w' ⟨rfl,rfl⟩;have O7:zgU (none:Option Nat)= .tuple #[E Z 0, .bool false]:=rfl;rw[O7];clear O7;go_wp2_with fail;refine E8.out.mono ?_;rintro e wq ⟨rfl,q,hwq⟩;have P1:RP wq R rb (.slice Ac st.code.length cc) (.slice Al st.labels.length cl) (.slice An st.lines.length cn) vw st ln:=HP.out.zk fun _ _=>by rw[hwq];rfl
 have K1:Keeps (gI R (.slice Ac st.code.length cc) (.slice Al st.labels.length cl) (.slice An st.lines.length cn) vw) w wq:=by rw[hwq];exact (Keeps.refl _ w).drewN q
 have Pq:wq.heap.size=w.heap.size:=by rw[hwq];rfl
 clear hwq r0 r1 r2 r3 r4 rf;obtain ⟨r0,r1,r2,r3,r4,rf⟩:=P1.cell;have Ls:=P1.lt;obtain ⟨iw,hiw,qO,hsw,hbw⟩:=info_parts zhY;obtain ⟨ii,hii,hzi,hsi,hbi⟩:=info_parts ztu;rw[Ir.out];have h0:RP ((wq.alloc (Ce #[.string (W0.extract 0 (W0.size - 1)),E Z (m:Int)] 113)).drew) R rb (.slice Ac st.code.length cc) (.slice Al st.labels.length cl) (.slice An st.lines.length cn) vw st ln:=(P1.below ((Below.refl _ _).alloc (Nat.le_refl _) _)).zk fun _ _=>rfl;have K0:Keeps (gI R (.slice Ac st.code.length cc) (.slice Al st.labels.length cl) (.slice An st.lines.length cn) vw) w ((wq.alloc (Ce #[.string (W0.extract 0 (W0.size - 1)),E Z (m:Int)] 113)).drew):=(K1.alloc _).drew;have E0:=Y0 h0.labels
 have N1:Hid (∀j u,([.string (W0.extract 0 (W0.size - 1)),E Z (m:Int)]:List Value)[j]?=some u→(((wq.alloc (Ce #[.string (W0.extract 0 (W0.size - 1)),E Z (m:Int)] 113)).drew)).cell? ((⟨wq.heap.size,0,O⟩:Addr).add j)=some u):=Y0 (by
  intro j u hu
  rw[Addr.add_lit,Nat.zero_add]
  exact (World.cell?_alloc_at _ _ _ _ rfl).trans Y23)
 have O1:Hid (∀u∈([.string (W0.extract 0 (W0.size - 1)),E Z (m:Int)]:List Value),u.oneCell'=true):=Y0 (by
  intro u hu
  simp at hu
  rcases hu with rfl|rfl<;>rfl)
 have M1:=Y0 (show st.labels.length+1≤maxLen by have:=yO.out;unfold maxLen;omega);have M2:=Y0 (show (st.labels.length+1)*24≤140737488355328 by have:=yO.out;omega);have M3:=Y0 (show rb≤(((wq.alloc (Ce #[.string (W0.extract 0 (W0.size - 1)),E Z (m:Int)] 113)).drew)).heap.size by have:=ug.out;show rb≤(wq.alloc _).heap.size;simp;omega);have HV:Hid (some R≠(Value.slice Al st.labels.length cl).ownBlock):=Y0 (own_ne h0.labels h0.vO Y2)
 have aD:Hid (∀v' w4,w4.ownsRow rb 113 2 v' (st.labels.length+1) (ZO st.labels++ [.string (W0.extract 0 (W0.size - 1)),E Z (m:Int)])→(((wq.alloc (Ce #[.string (W0.extract 0 (W0.size - 1)),E Z (m:Int)] 113)).drew)).grownBy w4 (Value.slice Al st.labels.length cl).ownBlock→(v'.ownBlock=(Value.slice Al st.labels.length cl).ownBlock∨v'.ownBlock=V (((wq.alloc (Ce #[.string (W0.extract 0 (W0.size - 1)),E Z (m:Int)] 113)).drew)).heap.size)→
   RP (w4.setCell ⟨R,1,O⟩ v') R rb (.slice Ac st.code.length cc) v' (.slice An st.lines.length cn) vw { st with labels:=st.labels++ [(w0.dropLast,st.code.length)]} ln∧Keeps (gI R (.slice Ac st.code.length cc) (.slice Al st.labels.length cl) (.slice An st.lines.length cn) vw) w (w4.setCell ⟨R,1,O⟩ v')∧ ∀k,v'.ownBlock=some k→(Value.slice Al st.labels.length cl).ownBlock=some k∨w.heap.size≤k):=Y0 (fun v' w4 hr hg hnew=>by
  have eV:vD w0.dropLast= .string (W0.extract 0 (W0.size - 1)):=by
   rw[←ng.out,Ir.out];rfl
  have hr2:w4.ownsRow rb 113 2 v' (st.labels++ [(w0.dropLast,st.code.length)]).length (ZO (st.labels++ [(w0.dropLast,st.code.length)])):=by
   rw[Jf,List.length_append,eV,←EY.out];exact hr
  have hadd:=h0.jA _ hg hr2
  refine ⟨hadd,(K0.grown hg (fun k e=>Or.inr (Or.inr (Or.inl e)))).setCell (p:=⟨R,1,O⟩) (Or.inl rfl) _,fun k hk=>?_⟩
  rcases hnew with e2|e2
  ·exact Or.inl (e2▸hk)
  ·right
   rw[e2] at hk
   have h2:(wq.alloc (Ce #[.string (W0.extract 0 (W0.size - 1)),E Z (m:Int)] 113)).heap.size=k:=Option.some.inj hk
   simp at h2
   omega)
 have dD:Hid (∀w4:World,(((wq.alloc (Ce #[.string (W0.extract 0 (W0.size - 1)),E Z (m:Int)] 113)).drew)).grownBy w4 (Value.slice Al st.labels.length cl).ownBlock→w4.cell? ⟨R,1,O⟩=V (.slice Al st.labels.length cl)∧w4.frozen? ⟨R,1,O⟩=false):=Y0 (fun w4 hg=>by
  have hb:=(hg.block R h0.lt HV.out).trans h0.obj
  exact ⟨by simp[World.cell?,hb],by simp[World.frozen?,hb]⟩)
 rw[←EY.out] at r0;have HZq:=Y0 Pq;clear P1 K1 h0 K0 Pq;go_upto_region 7 with fail;go_cut [5] (fun _ wx=>Hid (∃A' c',RP wx R rb (.slice Ac st.code.length cc) (.slice A' (st.labels.length+1) c') (.slice An st.lines.length cn) vw { st with labels:=st.labels++ [(w0.dropLast,st.code.length)]} ln∧Keeps (gI R (.slice Ac st.code.length cc) (.slice Al st.labels.length cl) (.slice An st.lines.length cn) vw) w wx∧ ∀k,(Value.slice A' (st.labels.length+1) c').ownBlock=some k→(Value.slice Al st.labels.length cl).ownBlock=some k∨w.heap.size≤k));case first=>
  go_wp2_with fail;go_region_law (first|(refine Zw _ rfl (.tmp 56) (.tmp 64) 53 rfl rb 113 iw _ 2 24 Tryz.underlying53 hiw qO hsw hbw rfl Y2 (.slice Al st.labels.length cl) st.labels.length (ZO st.labels) Y20 E0.out ⟨wq.heap.size,0,O⟩ 1 1 [.string (W0.extract 0 (W0.size - 1)),E Z (m:Int)] Y20 rfl N1.out O1.out M1.out M2.out M3.out ?_;intro v' w4 hown' hgrow hnew;obtain ⟨A',c',rfl⟩:=zn hown';have tt:=dD.out w4 hgrow;have t0:=tt.1;have t2:=tt.2;have HF:=Y0 (aD.out _ _ hown' hgrow hnew);clear hown' hgrow hnew tt));all_goals
   go_wp2_with fail
   go_meet
   exact Y0 ⟨_,_,HF.out⟩
 case rest=>
  clear r0 r1 r2 r3 r4 rf aD dD HV E0 N1 O1 M1 M2 M3 Ls;exact zwq):zP:=h
open zyK in
theorem zfl {w:World} {R rb g cap ln:Nat} {vc vl vn vw:Value} {st:St} (hP:RP w R rb vc vl vn vw st ln) (hrb:rb≤w.heap.size) {w0:Str} (hcell:w.cell? ⟨g,0,O⟩=V (vD w0)) (hw0:0<w0.length∧w0.length≤100000) (hl58:w0.getLast?=some 58) (hnm:ZC w0.dropLast=true) (hno:kN st.labels w0.dropLast=none) (hcn:st.code.length≤90000) (hll:st.labels.length≤90000) (hli:st.lines.length≤90000):
  Calls Tp 32 #[Y (V ⟨R,0,O⟩),Sl (V ⟨g,0,O⟩) 1 cap] w (Bg w R rb vc vl vn vw { st with labels:=st.labels++ [(w0.dropLast,st.code.length)],lines:=st.lines++ [ln]} ln):=by
 obtain ⟨Al,cl,rfl⟩:=zn hP.labels;obtain ⟨Ac,cc,rfl⟩:=zn hP.code;obtain ⟨An,cn,rfl⟩:=zn hP.lines;have HP:=Y0 hP;have yO:=Y0 hll;have fU:=Y0 hli;have ug:=Y0 hrb;obtain ⟨W0,hW0⟩: ∃W0:ByteArray,W0=⟨w0.toArray⟩:=⟨_,rfl⟩;have c0:w.cell? ⟨g,0,O⟩=V (.string W0):=by rw[hW0];exact hcell
 have hz0:W0.size=w0.length:=by rw[hW0];rfl
 have cZ:W0.data.toList=w0:=by rw[hW0]
 have nL:(W0.size:Int)≤100000:=Y1;have sZ:(1:Int)≤(W0.size:Int):=Y1;have hl:W0.size - 1<W0.size:=Y1;have t1:(((W0[W0.size - 1]'hl).toNat:Int)==58)=true:=by
  exact zwb
 exact zw3
theorem zmA {w:World} {R rb g cap ln:Nat} {vc vl vn vw:Value} {st st':St} (hP:RP w R rb vc vl vn vw st ln) (hrb:rb≤w.heap.size) (hg: ¬gI R vc vl vn vw g) (hgl:g<w.heap.size) {s:Str} (hs:s.length≤1000) (hne:ZN s≠ []) (hcell: ∀k (hk:k<(ZN s).length),w.cell? ⟨g,k,O⟩=V (vD (ZN s)[k])) (hcap:(ZN s).length≤cap) (h:zK st ln s=some st') (hcn:st.code.length≤90000) (hll:st.labels.length≤90000) (hli:st.lines.length≤90000) (hwl:st.wants.length≤90000):
  Calls Tp 32 #[Y (V ⟨R,0,O⟩),Sl (V ⟨g,0,O⟩) (ZN s).length cap] w (Bg w R rb vc vl vn vw st' ln):=by
 obtain ⟨hlen,hcnt⟩:=zcu s
 cases hw:ZN s with
 |nil=>exact absurd hw hne
 |cons w0 ws=>
 rw[hw] at hlen hcnt hcap
 have hcell2: ∀k (hk:k<(w0::ws).length),w.cell? ⟨g,k,O⟩=V (vD (w0::ws)[k]):=by
  intro k hk
  have:=hcell k (by rw[hw];exact hk)
  rw[this]
  congr 2
  simp[hw]
 obtain ⟨a,b⟩:=hlen w0 List.mem_cons_self
 have hcw:ws.length≤1000:=by simp at hcnt;omega
 have hws: ∀x∈ws,x.length≤100000:=fun x hx=>by
  have:=(hlen x (List.mem_cons_of_mem _ hx)).2
  omega
 unfold zK at h
 have hl2:jZ s=(if ws= []∧w0.getLast?=some 58 then (if ZC w0.dropLast then some (.label w0.dropLast) else none)
  else if KH w0=0 then none
  else
   let ks:=Zk (KH w0)
   match ZA { op:=KH w0} ks ws with
   |none=>none
   |some (x,l)=>
    if ws.length=ks.length then some (.ins x l)
    else if ws.length=ks.length+1∧((ws.getLast?).bind List.head?)=some 33 then (Gb x (ws.getLast?.getD [])).map fun y=> .ins y l
    else none):=by
  unfold jZ
  rw[hw]
  rfl
 rw[hl2] at h
 by_cases hc:ws= []∧w0.getLast?=some 58
 ·rw[if_pos hc] at h
  obtain ⟨rfl,hc2⟩:=hc
  by_cases hn:ZC w0.dropLast=true
  ·rw[if_pos hn] at h
   dsimp only at h
   split at h
   ·cases h
   ·rename_i hany
    cases h
    refine zfl hP hrb (g:=g) (cap:=cap) (hcell2 0 Y7) ⟨a,by omega⟩ hc2 hn ?_ hcn hll hli
    unfold kN
    rw[Option.map_eq_none_iff,List.find?_eq_none]
    intro x hx e
    exact hany (List.any_eq_true.2 ⟨x,hx,e⟩)
  ·rw[if_neg hn] at h
   cases h
 ·rw[if_neg hc] at h
  by_cases hop:KH w0=0
  ·rw[if_pos hop] at h;cases h
  ·rw[if_neg hop] at h
   dsimp only at h
   cases ho:ZA { op:=KH w0} (Zk (KH w0)) ws with
   |none=>rw[ho] at h;cases h
   |some p=>
    obtain ⟨y,lr⟩:=p
    rw[ho] at h
    dsimp only at h
    by_cases hlk:ws.length=(Zk (KH w0)).length
    ·rw[if_pos hlk] at h
     cases h
     exact zcY hP hrb hg hgl hcell2 hcap ⟨a,by omega⟩ hc hop (Bn _ hop) Y1 hws ho (Or.inl ⟨hlk,rfl⟩) hcn hwl
    ·rw[if_neg hlk] at h
     by_cases hbg:ws.length=(Zk (KH w0)).length+1∧((ws.getLast?).bind List.head?)=some 33
     ·rw[if_pos hbg] at h
      obtain ⟨hlk2,hbg⟩:=hbg
      cases hz:Gb y (ws.getLast?.getD []) with
      |none=>rw[hz] at h;cases h
      |some z=>
       rw[hz] at h
       cases h
       refine zcY hP hrb hg hgl hcell2 hcap ⟨a,by omega⟩ hc hop (Bn _ hop) Y1 hws ho (Or.inr ⟨hlk2,?_⟩) hcn hwl
       have e1:ws.getLast?=ws[(Zk (KH w0)).length]?:=by
        rw[zdn]
        congr 1
        omega
       rw[e1] at hbg hz
       cases hgx:ws[(Zk (KH w0)).length]? with
       |none=>rw[hgx] at hbg;cases hbg
       |some m=>
        rw[hgx] at hbg hz
        cases m with
        |nil=>cases hbg
        |cons c r=>
         have:c=33:=Option.some.inj hbg
         subst this
         exact ⟨r,rfl,hz⟩
     ·rw[if_neg hbg] at h
      cases h
def OKL (l:Str):Prop:=(∀c∈l,c≠59)∧l.length≤1000
def ziu (w:World) (Tl:Str) (stF:St) (R i fr:Nat) (wr:World):Prop:=
 ∃st ln vc vl vn vw,(i≤Tl.length→Ka st ln (ZV ((Tl.drop fr).take (i - fr)) (Tl.drop i))=some stF∧ ∀l∈ZV ((Tl.drop fr).take (i - fr)) (Tl.drop i),OKL l)∧(i=Tl.length+1→st=stF)∧RP wr R w.heap.size vc vl vn vw st ln∧Below w.heap.size w wr∧(∀k,gI R vc vl vn vw k→w.heap.size≤k)∧WOK st∧ln≤i∧st.code.length≤ln∧st.labels.length≤ln∧st.lines.length≤ln∧st.wants.length≤3*ln
section
variable {w wr w':World} {Tl:Str} {stF:St} {R i fr:Nat}
theorem take_one {l:Str} {fr i:Nat} (hf:fr≤i) (hi:i<l.length):(l.drop fr).take (i+1 - fr)=(l.drop fr).take (i - fr)++ [l[i]]:=by
 rw[show i+1 - fr=(i - fr)+1 by omega,List.take_add_one,List.getElem?_drop,show fr+(i - fr)=i by omega,List.getElem?_eq_getElem hi];rfl
theorem zmn (h:ziu w Tl stF R i fr wr) (hf:fr≤i) (hi:i<Tl.length) (hc:Tl[i]≠10):ziu w Tl stF R (i+1) fr wr:=by
 obtain ⟨st,ln,vc,vl,vn,vw,h1,h2,h3,h4,h5,h6,h7,h8,h9,h10,h11⟩:=h;obtain ⟨a,b⟩:=h1 Y1;have e:ZV ((Tl.drop fr).take (i+1 - fr)) (Tl.drop (i+1))=ZV ((Tl.drop fr).take (i - fr)) (Tl.drop i):=by
  rw[List.drop_eq_getElem_cons hi,ZV,if_neg hc,take_one hf hi]
 exact ⟨st,ln,vc,vl,vn,vw,fun _=>by rw[e];exact ⟨a,b⟩,fun e=>by omega,h3,h4,h5,h6,by omega,h8,h9,h10,h11⟩
theorem zor (st:St) (ln:Nat):zK st ln []=some st:=rfl
theorem zpj (h:ziu w Tl stF R i fr wr) (hi:i=Tl.length) (hf:fr=i):ziu w Tl stF R (i+1) fr wr:=by
 obtain ⟨st,ln,vc,vl,vn,vw,h1,h2,h3,h4,h5,h6,h7,h8,h9,h10,h11⟩:=h;obtain ⟨a,b⟩:=h1 Y1;rw[hf,Nat.sub_self,List.take_zero,hi,List.drop_of_length_le (Nat.le_refl _),ZV,Ka,zor] at a;have e:st=stF:=Option.some.inj a;exact ⟨st,ln,vc,vl,vn,vw,fun h=>by omega,fun _=>e,h3,h4,h5,h6,by omega,h8,h9,h10,h11⟩
theorem zky {st:St} {ln:Nat} (hi:i≤Tl.length) (hc: ∀(h:i<Tl.length),Tl[i]=10)
  (a:Ka st ln (ZV ((Tl.drop fr).take (i - fr)) (Tl.drop i))=some stF) (b: ∀l∈ZV ((Tl.drop fr).take (i - fr)) (Tl.drop i),OKL l):
  ∃st',zK st ln ((Tl.drop fr).take (i - fr))=some st'∧OKL ((Tl.drop fr).take (i - fr))∧(i+1≤Tl.length→Ka st' (ln+1) (ZV ((Tl.drop (i+1)).take (i+1 - (i+1))) (Tl.drop (i+1)))=some stF∧ ∀l∈ZV ((Tl.drop (i+1)).take (i+1 - (i+1))) (Tl.drop (i+1)),OKL l)∧(i+1=Tl.length+1→st'=stF):=by
 by_cases h:i<Tl.length
 ·have e:ZV ((Tl.drop fr).take (i - fr)) (Tl.drop i)=(Tl.drop fr).take (i - fr)::ZV [] (Tl.drop (i+1)):=by
   rw[List.drop_eq_getElem_cons h,ZV,if_pos (hc h)]
  rw[e] at a b;rw[Ka] at a;obtain ⟨st',h1,h2⟩:=Option.bind_eq_some_iff.1 a;refine ⟨st',h1,b _ List.mem_cons_self,fun _=>?_,fun e=>by omega⟩;rw[Nat.sub_self,List.take_zero];exact ⟨h2,fun l hl=>b l (List.mem_cons_of_mem _ hl)⟩
 ·have hi2:i=Tl.length:=Y1;have e:ZV ((Tl.drop fr).take (i - fr)) (Tl.drop i)= [(Tl.drop fr).take (i - fr)]:=by
   rw[show Tl.drop i= [] from List.drop_of_length_le Y1];rfl
  rw[e] at a b;rw[Ka] at a;obtain ⟨st',h1,h2⟩:=Option.bind_eq_some_iff.1 a;exact ⟨st',h1,b _ List.mem_cons_self,fun h=>by omega,fun _=>Option.some.inj h2⟩
end
theorem ziV {l:List (Nat×Nat×Str)} {i:Nat} (hi:i<l.length):(Kh l)[i*3]?=V (E Z (l[i].2.1:Int))∧(Kh l)[i*3+1]?=V (E Z (l[i].1:Int))∧(Kh l)[i*3+2]?=V (vD l[i].2.2):=
 ⟨VO (k:=3) (fun _=>rfl) l i hi 0 Y1,VO (k:=3) (fun _=>rfl) l i hi 1 Y1,VO (k:=3) (fun _=>rfl) l i hi 2 Y1⟩
theorem RP.patch {w:World} {R rb g c ln:Nat} {vl vn vw:Value} {st:St} (h:RP w R rb (Sl (V ⟨g,0,O⟩) st.code.length c) vl vn vw st ln) (a p:Nat):
  RP (w.setCell ⟨g,a*7+4,O⟩ (E J (p:Int))) R rb (Sl (V ⟨g,0,O⟩) st.code.length c) vl vn vw { st with code:=st.code.modify a fun x=>{ x with v:=p}} ln:=by
 have tg:kP w g=111+2:=zI h.code rfl;have hb: ∀k,k≠g→(w.setCell ⟨g,a*7+4,O⟩ (E J (p:Int))).heap[k]?=w.heap[k]?:=fun k hk=>Below.heap_setCell _ _ _ _ hk;refine ⟨(hb R (zH h.vO tg Y2)).trans h.obj,?_,za h.labels fun k hk=>hb k (zH (zI h.labels hk) tg Y2),za h.lines fun k hk=>hb k (zH (zI h.lines hk) tg Y2),za h.wants fun k hk=>hb k (zH (zI h.wants hk) tg Y2)⟩;have:=(h.code.stored (a*7+4) (E J (p:Int))).1;rw[←bC] at this;simpa using this
def zvA (w:World) (st:St) (codeF:List zx) (R ln:Nat) (vc vl vn vw:Value) (j:Nat) (wr:World):Prop:=
 ∃code,GR st.labels code (st.wants.drop j)=some codeF∧code.length=st.code.length∧RP wr R w.heap.size vc vl vn vw { st with code:=code} ln∧Below w.heap.size w wr
def JK (w:World) (code:List zx) (labels:List (Str×Nat)) (e:Ending) (w':World):Prop:=
 ∃vc vl,e=Rt (.tuple #[vc,vl,Y none])∧w'.ownsRow w.heap.size 111 7 vc code.length (Ze code)∧w'.ownsRow w.heap.size 113 2 vl labels.length (ZO labels)∧Below w.heap.size w w'
theorem zmw {T:ByteArray} (xJ:T.size≤20000) (hok: ∀l∈ZM T.data.toList,OKL l) {code:List zx} {labels:List (Str×Nat)} (hp:Vt (ZM T.data.toList)=V (code,labels)) (w:World):
  Calls Tp 17 #[.string T] w (JK w code labels):=by
 unfold Vt at hp
 cases hs:Ka {} 0 (ZM T.data.toList) with
 |none=>rw[hs] at hp;cases hp
 |some stF=>
 rw[hs] at hp
 dsimp only at hp
 cases hq:GR stF.labels stF.code stF.wants with
 |none=>rw[hq] at hp;cases hp
 |some codeF=>
 rw[hq] at hp
 dsimp only at hp
 split at hp
 case isFalse=>cases hp
 rename_i hfin
 injection hp with hp
 injection hp with hp1 hp2
 subst hp1 hp2
 have HS:=Y0 hs
 have HQ:=Y0 hq
 have HF:=Y0 hfin
 have q9:=Y0 hok
 have Sq:(T.size:Int)≤20000:=Y1
 have NY:=Y0 xJ
 clear hs hq hfin hok xJ
 have H0:Hid (ziu w T.data.toList stF w.heap.size 0 0 (w.alloc (Ce #[Sl none 0 0,Sl none 0 0,Sl none 0 0,Sl none 0 0,E Z 0] 103))):=Y0 (by
  refine ⟨{},0,Sl none 0 0,Sl none 0 0,Sl none 0 0,Sl none 0 0,fun _=>⟨HS.out,q9.out⟩,(fun e=>by omega),⟨heap_alloc_new w _,World.ownsRow_nil _ _ _ _,World.ownsRow_nil _ _ _ _,World.ownsRow_nil _ _ _ _,World.ownsRow_nil _ _ _ _⟩,(Below.refl _ _).alloc (Nat.le_refl _) _,?_,⟨(fun p hp=>by cases hp),(fun p hp=>by cases hp)⟩,Nat.le_refl _,Nat.le_refl _,Nat.le_refl _,Nat.le_refl _,Nat.le_refl _⟩
  rintro k (h|h|h|h|h)
  ·omega
  all_goals cases h)
 obtain ⟨R,hR⟩: ∃R,R=w.heap.size:=⟨_,rfl⟩
 have HR:=Y0 hR
 go_enter Tryz.func17,Tryz.ntmps17
 go_wp2_with fail
 rw[←hR] at H0 ⊢
 clear hR
 go_loopw [6,7] (fun fv iv wr=> ∃fr i:Nat,i≤T.size+1∧fr≤i∧fv=E Z fr∧iv=E Z i∧Hid (ziu w T.data.toList stF R i fr wr)) (fun _ iv _=>T.size+1 - (intOf iv).toNat)
 case atStart=>exact ⟨0,0,by omega,by omega,rfl,rfl,H0⟩
 case round=>
  obtain ⟨fr,i,hi,hf,rfl,rfl,HL⟩:=hrel
  have dH:(i:Int)≤(T.size:Int)+1:=Y1
  have LW:(fr:Int)≤(i:Int):=Y1
  have hlen:=zL T
  by_cases hle:i≤T.size
  ·have yD:(i:Int)≤(T.size:Int):=Y1
   have hd1:decide (i≤T.size)=true:=decide_eq_true hle
   by_cases hch: ∃h:i<T.size,T[i]≠10
   ·obtain ⟨hlt,hne⟩:=hch
    have aH:(i:Int)<(T.size:Int):=Y1
    have hb:((T[i].toNat:Int) !=10)=true:=by rw[bne_iff_ne];intro e;exact hne ((Zx _ 10).1 e)
    have cu:=Y0 (zmn HL.out hf (by rw[hlen];exact hlt) hne)
    clear hne hlen HL
    go_wp2_with fail
    go_roundw
    case rel=>exact ⟨fr,i+1,by omega,by omega,rfl,by go_num,cu⟩
    case measure=>simp[intOf];omega
   ·by_cases hend:i=T.size∧fr=i
    ·obtain ⟨h1,h2⟩:=hend
     have cu:=Y0 (zpj HL.out (by rw[hlen];exact h1) h2)
     subst h2
     subst h1
     clear hlen HL hch
     go_wp2_with fail
     go_roundw
     case rel=>exact ⟨T.size,T.size+1,by omega,by omega,rfl,by go_num,cu⟩
     case measure=>simp[intOf]
    ·obtain ⟨st,ln,vc,vl,vn,vw,h1,h2,h3,h4,h5,h6,h7,h8,h9,h10,h11⟩:=HL.out
     obtain ⟨a,b⟩:=h1 (by rw[hlen];exact hle)
     obtain ⟨st',s1,s2,s3,s4⟩:=zky (by rw[hlen];exact hle) (fun h=>Classical.byContradiction fun hne=>hch ⟨by rw[hlen] at h;exact h,hne⟩) a b
     have hex:(decide (i<T.size)=false∧((i:Int)==(T.size:Int))=true∧((fr:Int)==(i:Int))=false)∨(∃h:i<T.size,decide (i<T.size)=true∧((T[i].toNat:Int) !=10)=false∧((i:Int)==(T.size:Int))=false):=by
      by_cases h:i<T.size
      ·refine Or.inr ⟨h,decide_eq_true h,?_,beq_eq_false_iff_ne.2 Y1⟩
       have h10:T[i]=10:=Classical.byContradiction fun hne=>hch ⟨h,hne⟩
       rw[bne_eq_false_iff_eq]
       exact (Zx _ 10).2 h10
      ·exact Or.inl ⟨decide_eq_false h,beq_iff_eq.2 Y1,beq_eq_false_iff_ne.2 (fun e=>hend ⟨by omega,by omega⟩)⟩
     obtain ⟨S,hS⟩: ∃S:ByteArray,S=T.extract fr i:=⟨_,rfl⟩
     have fJ:S.data.toList=(T.data.toList.drop fr).take (i - fr):=by rw[hS,Zj]
     rw[←fJ] at s1 s2
     have QI:=Y0 hS
     have yT:=Y0 (zjb S wr (by rw[←zL];have:=s2.2;omega) s2.1)
     have cu:Hid (∀wz mG mH mJ aN,RP wz R w.heap.size mG mH mJ aN st' (ln+1)→Below w.heap.size w wz→(∀k,gI R mG mH mJ aN k→w.heap.size≤k)→ziu w T.data.toList stF R (i+1) (i+1) wz):=Y0 (fun wz mG mH mJ aN k1 k2 k3=>by
      obtain ⟨l1,l2,l3,l4⟩:=zgf s1
      exact ⟨st',ln+1,mG,mH,mJ,aN,s3,s4,k1,k2,k3,zfG s1 h6,by omega,by omega,by omega,by omega,by omega⟩)
     have HP:=Y0 h3
     have wD:=Y0 h4
     have wQ:=Y0 h5
     have dX:=Y0 s1
     have dF:=Y0 s2.2
     have oO:Hid (ln≤20001∧st.code.length≤ln∧st.labels.length≤ln∧st.lines.length≤ln∧st.wants.length≤3*ln):=Y0 ⟨by have:=NY.out;omega,h8,h9,h10,h11⟩
     have Te:(ln:Int)≤20001:=by have:=oO.out.1;omega
     have Td:(0:Int)≤(ln:Int):=Y1
     clear h1 h2 h3 h4 h5 h6 h7 h8 h9 h10 h11 a b s1 s2 s3 s4 hS fJ HL hch hend hlen
     have hcut:Hid (∀(a:Act),True):=Y0 (fun _=>trivial)
     clear hcut
     rcases hex with ⟨e1,e2,e3⟩ |⟨hlt,e1,e2,e3⟩
     all_goals
      go_wp2_with fail
      rw[←QI.out]
      refine yT.out.mono ?_
      rintro e w2 ⟨v,rfl,hrow,hb2⟩
      have P2:=HP.out.below hb2
      have B2:Below w.heap.size w w2:=wD.out.trans (hb2.mono wD.out.size)
      cases hw:ZN S.data.toList with
      |nil=>
       rw[hw] at hrow
       obtain ⟨A,c,rfl⟩:=zn hrow
       have he:st'=st:=by
        have h:=dX.out
        unfold zK jZ at h
        rw[hw] at h
        exact (Option.some.inj h).symm
       obtain ⟨p0,p1,p2,p3,p4,pf⟩:=P2.cell
       have hRl:=P2.lt
       have F7:=Y0 (cu.out _ _ _ _ _ (by rw[he];exact P2.next) (B2.setCell (p:=⟨R,4,O⟩) (by exact wQ.out R (Or.inl rfl)) _) wQ.out)
       clear hw hrow hb2 P2 B2 he
       simp only[List.length_nil]
       go_wp2_with fail
       go_roundw
       case rel=>exact ⟨i+1,i+1,by omega,by omega,by go_num,by go_num,F7⟩
       case measure=>simp[intOf];omega
      |cons w0 ws=>
       have hne:ZN S.data.toList≠ []:=by rw[hw];simp
       have Fz:0<(ZN S.data.toList).length:=by rw[hw];simp
       obtain ⟨g,cap,rfl,hg1,hg2,hcap,hc⟩:=zhL hrow Fz
       have hgn: ¬gI R vc vl vn vw g:=fun h=>by have:=HP.out.of_lt h;omega
       have lK:=Y0 (zmA P2 B2.size hgn hg2 (s:=S.data.toList) dF.out hne hc hcap dX.out (by have:=oO.out;omega) (by have:=oO.out;omega) (by have:=oO.out;omega) (by have:=oO.out;omega))
       have aP:=Y0 B2
       have Mk:(0:Int)<((ZN S.data.toList).length:Int):=Y1
       generalize (ZN S.data.toList).length=nw at Mk lK ⊢
       clear hw hrow hb2 P2 B2 hne Fz hg1 hg2 hcap hc hgn
       go_wp2_with fail
       refine lK.out.mono ?_
       rintro e w3 ⟨rfl,mG,mH,mJ,aN,P3,K3,O3⟩
       have B3:Below w.heap.size w w3:=Keeps.below aP.out K3 aP.out.size wQ.out
       have Oi: ∀k,gI R mG mH mJ aN k→w.heap.size≤k:=fun k hk=>by
        rcases O3 k hk with h|h
        ·exact wQ.out k h
        ·have:=aP.out.size;omega
       obtain ⟨p0,p1,p2,p3,p4,pf⟩:=P3.cell
       have hRl:=P3.lt
       have F7:=Y0 (cu.out _ _ _ _ _ P3.next (B3.setCell (p:=⟨R,4,O⟩) (by exact wQ.out R (Or.inl rfl)) _) Oi)
       clear P3 K3 O3 B3 Oi
       go_wp2_with fail
       go_roundw
       case rel=>exact ⟨i+1,i+1,by omega,by omega,by go_num,by go_num,F7⟩
       case measure=>simp[intOf];omega
  ·obtain rfl:i=T.size+1:=Y1
   obtain ⟨st,ln,vc,vl,vn,vw,h1,h2,h3,h4,h5,h6,h7,h8,h9,h10,h11⟩:=HL.out
   obtain rfl:=h2 (by rw[hlen])
   obtain ⟨Aw,cw,rfl⟩:=zn h3.wants
   obtain ⟨Al,cl,rfl⟩:=zn h3.labels
   obtain ⟨Ac,cc,rfl⟩:=zn h3.code
   obtain ⟨m,hm⟩: ∃m,m=st.wants.length:=⟨_,rfl⟩
   have Mg:ln≤20001:=by have:=NY.out;omega
   have rX:(m:Int)≤100000:=Y1
   have HM:=Y0 hm
   have qH:=Y0 h6
   have hlc:(st.code.length:Int)≤20001:=Y1
   have hll:(st.labels.length:Int)≤20001:=Y1
   have Ny:Hid (st.code.length≤20001∧st.labels.length≤20001):=Y0 ⟨by omega,by omega⟩
   have Ih:Hid (zvA w st codeF R ln (.slice Ac st.code.length cc) (.slice Al st.labels.length cl) vn (.slice Aw st.wants.length cw) 0 wr):=Y0 ⟨st.code,HQ.out,rfl,h3,h4⟩
   have hd0:decide ((T.size:Int)+1≤(T.size:Int))=false:=decide_eq_false Y1
   clear h1 h2 h3 h4 h5 h6 h7 h8 h9 h10 h11 hm HL H0 HS hlen Mg hi hf dH LW hle
   go_wp2_with fail
   go_loopw [10] (fun cv wr=> ∃j:Nat,j≤m∧cv=E Z j∧Hid (zvA w st codeF R ln (.slice Ac st.code.length cc) (.slice Al st.labels.length cl) vn (.slice Aw st.wants.length cw) j wr)) (fun cv _=>m - (intOf cv).toNat)
   case atStart=>exact ⟨0,by omega,rfl,Ih⟩
   case round=>
    obtain ⟨j,hj,rfl,uf⟩:=hrel
    have Am:(j:Int)≤(m:Int):=Y1
    obtain ⟨code,q1,q2,q3,q4⟩:=uf.out
    by_cases hlt2:j<m
    ·have DY:(j:Int)<(m:Int):=Y1
     have nG:j<st.wants.length:=by rw[←HM.out];exact hlt2
     rw[List.drop_eq_getElem_cons nG] at q1
     obtain ⟨p,q5,q6⟩:=zbW q1
     have hwk:=qH.out.1 _ (List.getElem_mem nG)
     obtain ⟨y1,y2,y3⟩:=ziV nG
     obtain ⟨gw,Rh,ew,Rx,Ry,I9,uw,_⟩:=Vw q3.wants (by show 0<st.wants.length;omega)
     injection ew with ew1 ew2 ew3
     subst ew1
     subst ew3
     have c1:=(uw (j*3+1) Y35).trans y2
     have c2:=(uw (j*3+2) Y35).trans y3
     have wO:Hid (∀wz:World,RP wz R w.heap.size (.slice Ac st.code.length cc) (.slice Al st.labels.length cl) vn (Sl (V ⟨gw,0,O⟩) st.wants.length cw) { st with code:=code.modify st.wants[j].1 fun y=>{ y with v:=p}} ln→Below w.heap.size w wz→zvA w st codeF R ln (.slice Ac st.code.length cc) (.slice Al st.labels.length cl) vn (Sl (V ⟨gw,0,O⟩) st.wants.length cw) (j+1) wz):=Y0 (fun wz k1 k2=>⟨_,q6,by simpa using q2,k1,k2⟩)
     obtain ⟨x,hx,f1,f2,f3⟩:=zg9 q5
     have hwl:=qH.out.2 _ (List.getElem_mem hx)
     rw[f2] at hwl
     generalize st.wants[j]=pj at c1 c2 q5 wO hwk f1 f3
     obtain ⟨a,l,nm⟩:=pj
     dsimp only at c1 c2 q5 wO hwk f1 f3
     obtain ⟨Tn,xI⟩: ∃Tn:ByteArray,Tn=⟨nm.toArray⟩:=⟨_,rfl⟩
     have fA:Tn.data.toList=nm:=by rw[xI]
     have c2':wr.cell? ⟨gw,j*3+2,O⟩=V (.string Tn):=by rw[c2,xI];rfl
     have Qb:Hid (∀n,Calls Tp 33 #[.slice Al st.labels.length cl, .string Tn] (wr.drewN n) fun e w'=>e=Rt (.tuple #[E Z (p:Int), .bool true])∧w'=wr.drewN n):=Y0 (fun n=>by
      have:=zde Al cl st.labels Tn (wr.drewN n) (zpK (za (w':=wr.drewN n) q3.labels fun _ _=>rfl)) (by have:=Ny.out;omega)
      refine this.mono ?_
      rintro e w' ⟨rfl,rfl⟩
      rw[fA,q5]
      exact ⟨rfl,rfl⟩)
     obtain ⟨gc,cc',ec,I6,Fu,Rv,C9,I7⟩:=Vw q3.code (by show 0<code.length;omega)
     injection ec with ec1 ec2 ec3
     subst ec1
     subst ec3
     obtain ⟨old,hold⟩: ∃old,wr.cell? ⟨gc,a*7+4,O⟩=some old:=by
      have h1:a*7+4<code.length*7:=Y1
      have e:=C9 (a*7+4) h1
      have e2:a*7+4<(Ze code).length:=by rw[zda];exact h1
      exact ⟨_,e.trans (List.getElem?_eq_getElem e2)⟩
     obtain ⟨r0,r1,r2,r3,r4,rf⟩:=q3.cell
     replace r3:wr.cell? ⟨R,3,O⟩=V (Sl (V ⟨gw,0,O⟩) m cw):=by rw[HM.out];exact r3
     have oG:(p:Int)≤20001:=by have:=Ny.out;omega
     have Ai:(a:Int)<(st.code.length:Int):=Y1
     have hRl:=q3.lt
     have Im:=Y0 q3
     have nS:=Y0 q4
     have tZ:=Y0 q2
     clear xI fA f1 f2 f3 hwl uw C9 y1 y2 y3 q1 q2 q3 q4 q5 q6 c2 uf ew2 ec2 I9 hwk
     go_wp2_with fail
     go_quiet ((go_at_call 33;exact Calls.quiet_of_same (Qb.out _)))
     go_wp2_with fail
     have RN:RP ((wr.drewN nq).drew) R w.heap.size (Sl (V ⟨gc,0,O⟩) st.code.length cc) (.slice Al st.labels.length cl) vn (Sl (V ⟨gw,0,O⟩) st.wants.length cw) { st with code:=code} ln:=Im.out.zk fun _ _=>rfl
     have BN:Below w.heap.size w ((wr.drewN nq).drew):=⟨nS.out.os,nS.out.tape,nS.out.output,nS.out.size,nS.out.block⟩
     have sc:((wr.drewN nq).drew).cell? ⟨gw,j*3+1,O⟩=V (E Z (a:Int)):=c1
     have so:((wr.drewN nq).drew).cell? ⟨gc,a*7+4,O⟩=some old:=hold
     have sf: ∀o,((wr.drewN nq).drew).frozen? ⟨gc,o,O⟩=false:=I7
     obtain ⟨s0,s1,s2,s3,s4,Ez⟩:=RN.cell
     replace s3:((wr.drewN nq).drew).cell? ⟨R,3,O⟩=V (Sl (V ⟨gw,0,O⟩) m cw):=by rw[HM.out];exact s3
     generalize wr.drewN nq=wn at RN BN sc so sf s0 s1 s2 s3 s4 Ez ⊢
     go_still_tail 16,Y4
     change wpList _ _ _ _ _ wn.drew
     generalize wn.drew=wz at RN BN sc so sf s0 s1 s2 s3 s4 Ez ⊢
     have lS:=tZ.out
     have RZ:RP (wz.setCell ⟨gc,a*7+4,O⟩ (E J (p:Int))) R w.heap.size (Sl (V ⟨gc,0,O⟩) st.code.length cc) (.slice Al st.labels.length cl) vn (Sl (V ⟨gw,0,O⟩) st.wants.length cw) { st with code:=code.modify a fun y=>{ y with v:=p}} ln:=by
      have IY:RP wz R w.heap.size (Sl (V ⟨gc,0,O⟩) code.length cc) (.slice Al st.labels.length cl) vn (Sl (V ⟨gw,0,O⟩) st.wants.length cw) { st with code:=code} ln:=by rw[lS];exact RN
      have:=RP.patch (st:={ st with code:=code}) IY a p
      rw[lS] at this
      exact this
     have cu:=Y0 (wO.out _ RZ (BN.setCell (p:=⟨gc,a*7+4,O⟩) I6 _))
     clear RN BN RZ lS
     go_wp2_with fail
     go_roundw
     case rel=>first|exact ⟨j+1,by omega,by go_num,cu⟩ |((repeat apply Exists.intro);exact ⟨⟨j+1,by omega,by go_num,cu⟩,rfl⟩)
     case measure=>simp[intOf];omega
    ·obtain rfl:j=m:=Y1
     obtain rfl:code=codeF:=by
      rw[HM.out,List.drop_of_length_le (Nat.le_refl _)] at q1
      exact Option.some.inj q1
     have hfl:(st.code.length:Int)≤2048:=by have:=HF.out.1;omega
     have aS:=Y0 HF.out.2
     have tZ:=Y0 q2
     obtain ⟨r0,r1,r2,r3,r4,rf⟩:=q3.cell
     replace r3:wr.cell? ⟨R,3,O⟩=V (.slice Aw j cw):=by rw[HM.out];exact r3
     have Ii:Hid (RP wr R w.heap.size (.slice Ac st.code.length cc) (.slice Al st.labels.length cl) vn (.slice Aw st.wants.length cw) { st with code:=code} ln∧Below w.heap.size w wr):=Y0 ⟨q3,q4⟩
     clear uf q1 q2 q3 q4
     go_wp2_with fail
     go_loopw [13] (fun cv wr=> ∃k:Nat,k≤st.labels.length∧cv=E Z k∧Hid (RP wr R w.heap.size (.slice Ac st.code.length cc) (.slice Al st.labels.length cl) vn (.slice Aw st.wants.length cw) { st with code:=code} ln∧Below w.heap.size w wr)) (fun cv _=>st.labels.length - (intOf cv).toNat)
     case atStart=>exact ⟨0,by omega,rfl,Ii⟩
     case round=>
      obtain ⟨k,hk,rfl,qF⟩:=hrel
      obtain ⟨q3,q4⟩:=qF.out
      have dL:(k:Int)≤(st.labels.length:Int):=Y1
      obtain ⟨r0,r1,r2,r3,r4,rf⟩:=q3.cell
      have hRl:=q3.lt
      by_cases hlt3:k<st.labels.length
      ·have D7:(k:Int)<(st.labels.length:Int):=Y1
       obtain ⟨gl,cl',el,Oy,I8,Oz,rH,_⟩:=Vw q3.labels Y74
       injection el with el1 el2 el3
       subst el1
       subst el3
       obtain ⟨z1,z2⟩:=GZ hlt3
       have d1:=(rH (k*2+1) Y52).trans z2
       have hne:((st.labels[k].2:Int)==(st.code.length:Int))=false:=by
        rw[beq_eq_false_iff_ne]
        intro e
        have h:=List.all_eq_true.1 aS.out _ (List.getElem_mem hlt3)
        rw[tZ.out] at h
        have e2:st.labels[k].2=st.code.length:=Y1
        rw[e2] at h
        simp at h
       have hne2:(st.labels[k].2==st.code.length)=false:=by
        rw[beq_eq_false_iff_ne]
        intro e
        rw[e] at hne
        simp at hne
       have cu:Hid (∀nq,RP (wr.drewN nq) R w.heap.size (.slice Ac st.code.length cc) (Sl (V ⟨gl,0,O⟩) st.labels.length cl) vn (.slice Aw st.wants.length cw) { st with code:=code} ln∧Below w.heap.size w (wr.drewN nq)):=Y0 (fun nq=>⟨q3.zk fun _ _=>rfl,⟨q4.os,q4.tape,q4.output,q4.size,q4.block⟩⟩)
       generalize st.labels[k]=pk at d1 hne hne2
       obtain ⟨nm,at_⟩:=pk
       dsimp only at d1 hne hne2
       clear q3 q4 qF z1 z2 rH el2
       go_wp2_with fail
       go_quiet (fail)
       go_wp2_with fail
       go_roundw
       case rel=>first|exact ⟨k+1,by omega,by go_num,Y0 (cu.out _)⟩ |((repeat apply Exists.intro);exact ⟨⟨k+1,by omega,by go_num,Y0 (cu.out _)⟩,rfl⟩)
       case measure=>simp[intOf];omega
      ·obtain rfl:k=st.labels.length:=Y1
       clear q3 q4
       go_wp2_with fail
       go_quiet (fail)
       go_wp2_with fail
       go_ret3
       obtain ⟨q3,q4⟩:=qF.out
       refine ⟨_,_,rfl,?_,za q3.labels fun _ _=>rfl,⟨q4.os,q4.tape,q4.output,q4.size,q4.block⟩⟩
       have:=za (w':=wr.drewN nq) q3.code fun _ _=>rfl
       exact this
section
variable {B BL tb k:Nat} {vc vl vr v':Value} {code:List zx} {labels:List (Str×Nat)} {wr w' w2:World}
end
end Asm
end Go.Proofs.YtdlpmnmenhojfaaGreatDoor
