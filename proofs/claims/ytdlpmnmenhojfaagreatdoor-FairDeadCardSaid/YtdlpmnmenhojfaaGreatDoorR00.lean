/- Rows of tactics that stand in many proofs, laid once. -/
import Derived.KernelRfl
import GoSem.Claim
import Derived.WalkKit
import Derived.Deep.OwnRows
import Derived.Deep.RegionLaw
import Derived.Lib.Hide
import Derived.Maps.AppendAt
import Derived.Laws.CopyRow
import Derived.Laws.IdiomCopy
import Derived.StillTailTactics
import Derived.Maps.Own
import Derived.Maps.OwnOps
import Derived.Maps.OwnSet
import Derived.Maps.Views
import Derived.OneCell
import Derived.Outline
import Derived.WalkLawsBesides
import Derived.WalkSpells
import Derived.BigQuiet
import Derived.Deep.QuietTactic
import Derived.Deep.RegionHeld3
import Derived.RegionTactic
import Derived.Laws.OwnMore
import Derived.IntWalk
import Derived.Deep.Draws
import Derived.Laws.StructEq
import Derived.OpenShut
import Derived.ProofKit
import Derived.Deep.AppendLies
import Derived.Deep.Upon
import Derived.Carry
import Derived.Deep.Fields
import Derived.Deep.Slices
import Derived.ChangeSame
import Derived.Deep.DeepCutAuto
import Derived.Laws.AppendOwn
import Derived.Laws.AppendOwnNone
import Derived.Lib.Bytealg
import Derived.Lib.Slices
import Derived.Lib.Strings
import Derived.Lib.Walk
import Derived.OwnWalk
import Derived.Sort.Row
import Derived.Deep.LoopGhost
import Derived.LaidEql
import Derived.RowKitTokens
import Derived.Stop.Asserts
import Derived.Lib.Split
import Derived.Maps.RangeWalk
import Derived.Deep.Quiet
import Derived.LaidEqlPtr
import Derived.Deep.RegionWith
import Derived.Laws.MakeOwn
import Derived.LoopIn
import Derived.LoopNIn
import Derived.OwnWalkIn
import Derived.RangeFuncBound
import Derived.RangeFuncCalls
import Derived.RangeFuncFrom
import Derived.RangeFuncLeaves
import Derived.RangeFuncNested
import Derived.Shelf.Abstract
import Derived.Shelf.RegionOpen
import Derived.TacticsInMore
import Derived.Deep.CutBlock
import Derived.Lib.AppendZeros
import Derived.Shelf.GgSortFunc.Tiny
import Derived.Deep.RegionLawGrows
import Derived.StillTactics
import Derived.StringKeys
import Derived.ChangeKeysEq
import Derived.Shelf.Strings.Split
import Derived.ChangeVars
import Derived.Handed
import Derived.LaidHandle
import Derived.LaidLaws
import Derived.Shelf.Vars
import Derived.Stop.Joined
import Derived.Deep.RegionHeldLaw
set_option linter.unusedVariables false
set_option maxRecDepth 100000
set_option maxHeartbeats 40000000
namespace Go.Proofs.YtdlpmnmenhojfaaGreatDoor
section
variable {zP:Prop}
theorem Y0 {p:Prop} (h:p):Go.RowKit.Hid p:=Lib.hid h
theorem Y1 (h:zP:=by omega):zP:=h
theorem Y2 (h:zP:=by decide):zP:=h
theorem Y3 (h:zP:=by (first|(with_reducible exact Nat.le_refl _) |(simp only[World.size_alloc,World.size_drew]<;>omega) |omega)):zP:=h
theorem Y4 (h:zP:=by kernel_rfl):zP:=h
theorem Y5 (h:zP:=by repeat first|exact Below.refl _ _|exact hb4|exact hb5|refine VX ?_ _|refine Below.drew ?_):zP:=h
theorem Y6 (h:zP:=by repeat first|with_reducible assumption|with_reducible exact b0|with_reducible refine Below.drew ?_):zP:=h
theorem Y7 (h:zP:=by simp):zP:=h
theorem Y8 (h:zP:=by simp;omega):zP:=h
theorem Y9 (h:zP:=by repeat first|exact Below.refl _ _|refine VX ?_ _|refine Below.drew ?_):zP:=h
theorem gT (h:zP:=by rw[IntKind.wrap_i64];omega):zP:=h
theorem Y11 (h:zP:=by intro k e;injection e with e;subst e;(first|(with_reducible exact Nat.le_refl _) |(simp only[World.size_alloc,World.size_drew]<;>omega) |omega)):zP:=h
theorem Y12 (h:zP:=by rw[List.length_set];omega):zP:=h
theorem Y13 (h:zP:=by simp[MB.l]):zP:=h
theorem Y14 (h:zP:=by unfold VU;decide):zP:=h
theorem Y15 (h:zP:=by show zR M.runs r.id=some r;rw[hid];exact hr):zP:=h
theorem Y16 (h:zP:=by rw[←dW.out];exact hk):zP:=h
theorem Y17 (h:zP:=by simpa using h):zP:=h
theorem Y18 (h:zP:=by injection e):zP:=h
theorem jE (h:zP:=by decide+kernel):zP:=h
theorem Y20 (h:zP:=by simp[Act.eval]):zP:=h
theorem Y21 (h:zP:=by rw[zL];omega):zP:=h
theorem Y22 (h:zP:=by rw[IntKind.wrap_u64];omega):zP:=h
theorem Y23 (h:zP:=by simpa using hu):zP:=h
theorem Y24 (h:zP:=by unfold maxLen;omega):zP:=h
theorem Y25 (h:zP:=by rw[hw1];exact (Keeps.refl _ w).drewN q):zP:=h
theorem Y26 (h:zP:=by rw[hw2];exact fq.out.trans (ZW w1 aC nq)):zP:=h
theorem Y27 (h:zP:=by rw[←og.out];exact hk):zP:=h
theorem Y28 (h:zP:=by first|exact Or.inl rfl|exact Or.inr (Or.inl rfl) |exact Or.inr (Or.inr rfl)):zP:=h
theorem Y29 (h:zP:=by rw[hw1];exact HP.out.cell.2.2.2.2.1):zP:=h
theorem Y30 (h:zP:=by show id=r.id;exact hid.symm):zP:=h
theorem Y31 (h:zP:=by rw[List.getElem?_set_ne (by decide)];exact dS):zP:=h
theorem Y32 (h:zP:=by rw[←HV.out,List.take_of_length_le (by simp)]):zP:=h
theorem Y33 (h:zP:=by repeat first|exact Keeps.refl _ _|exact hk4|exact hk5|refine Keeps.alloc ?_ _|refine Keeps.drew ?_|refine Keeps.setCell ?_ (by exact rfl) _):zP:=h
theorem Y34 (h:zP:=by rw[hw1];exact heap_alloc_new w _):zP:=h
theorem Y35 (h:zP:=by show _<st.wants.length*3;omega):zP:=h
theorem Y36 (h:zP:=by rw[←HL.out];exact hle):zP:=h
theorem Y37 (h:zP:=by rcases e with e|e|e<;>cases e):zP:=h
theorem Y38 (h:zP:=by exact iD.out):zP:=h
theorem Y39 (h:zP:=by simp[World.setCell]):zP:=h
theorem Y40 (h:zP:=by rw[←HL.out];omega):zP:=h
theorem Y41 (h:zP:=by unfold Zg;rw[if_neg e0,if_pos e7]):zP:=h
theorem Y42 (h:zP:=by unfold Zg;rw[if_neg e0,if_neg e7]):zP:=h
theorem Y43 (h:zP:=by rw[hf,Nat.succ_mul];omega):zP:=h
theorem Y44 (h:zP:=by assumption):zP:=h
theorem Y45 (h:zP:=by rw[hW];exact fq.out.trans (ZW w1 aC nq)):zP:=h
theorem Y46 (h:zP:=by rw[hc.size];decide):zP:=h
theorem Y47 (h:zP:=by simp[gL]):zP:=h
theorem Y48 (h:zP:=by rw[hw1];exact HX.out):zP:=h
theorem Y49 (h:zP:=by simpa using hk):zP:=h
theorem Y50 (h:zP:=by simpa using hj):zP:=h
theorem Y51 (h:zP:=by simp;try omega):zP:=h
theorem Y52 (h:zP:=by show _<st.labels.length*2;omega):zP:=h
theorem Y53 (h:zP:=by rw[BF s k hlt,Bj]):zP:=h
theorem Y54 (h:zP:=by rw[ze ho];rfl):zP:=h
theorem Y55 (h:zP:=by rw[hw2];exact iO.out.drawn nq):zP:=h
theorem Y56 (h:zP:=by rw[hw2];exact H1.out.drewN nq):zP:=h
theorem Y57 (h:zP:=by rcases hb with rfl|rfl<;>show _≠K<;>omega):zP:=h
theorem Y58 (h:zP:=by rw[hw1];exact (Below.refl _ _).alloc (Nat.le_refl _) _):zP:=h
theorem Y59 (h:zP:=by simpa using hi):zP:=h
theorem Y60 (h:zP:=by simp[results,Tryz.results175,go_sem,World.cell?,iF]):zP:=h
theorem Y61 (h:zP:=by rw[List.length_set,←dW.out];omega):zP:=h
theorem Y62 (h:zP:=by simp[Act.eval,Act.put]):zP:=h
theorem Y63 (h:zP:=by rw[zL];exact hlt):zP:=h
theorem Y64 (h:zP:=by simp<;>omega):zP:=h
theorem Y65 (h:zP:=by rw[e];rfl):zP:=h
theorem Y66 (h:zP:=by rw[zep hl];omega):zP:=h
theorem Y67 (h:zP:=by injection e with e;exact e.symm):zP:=h
theorem Y68 (h:zP:=by rw[HM.out];omega):zP:=h
theorem Y69 (h:zP:=by unfold zV;omega):zP:=h
theorem Y70 (h:zP:=by rw[hw1];exact VX (Below.refl _ _) _):zP:=h
theorem Y71 (h:zP:=by rw[zs3 (by omega)];exact h):zP:=h
theorem Y73 (h:zP:=by first|exact hb1|exact (KD (Below.refl _ _) _).trans hb1):zP:=h
theorem Y74 (h:zP:=by show 0<st.labels.length;omega):zP:=h
theorem Y75 (h:zP:=by rw[hW];exact iO.out.drawn nq):zP:=h
theorem Y76 (h:zP:=by rw[eg]):zP:=h
theorem Y77 (h:zP:=by rw[←htl,zL];exact h2):zP:=h
theorem Y78 (h:zP:=by rw[hW];exact H1.out.drewN nq):zP:=h
theorem Y79 (h:zP:=by rw[←z0,←z1,←z2,←z3,←z4,←z5,←z6];exact iO.out):zP:=h
theorem Y80 (h:zP:=by rw[CF.out];omega):zP:=h
theorem Y81 (h:zP:=by rw[h.ok.len];exact hp):zP:=h
theorem Y82 (h:zP:=by rw[zL] at hj;exact hj):zP:=h
theorem Y83 (h:zP:=by rcases e with e|e<;>cases e):zP:=h
theorem Y84 (h:zP:=by rw[e];decide):zP:=h
theorem Y85 (h:zP:=by rw[←zL,fJ];exact yU.out _ (List.getElem_mem _)):zP:=h
theorem Y86 (h:zP:=by show j≠w.heap.size;omega):zP:=h
theorem Y87 (h:zP:=by rw[zpJ];exact HH.out):zP:=h
theorem Y88 (h:zP:=by exact fa):zP:=h
theorem Y89 (h:zP:=by rw[hf];exact hj):zP:=h
theorem Y90 (h:zP:=by simpa using hdg):zP:=h
theorem Y91 (h:zP:=by rw[List.length_drop,zL];exact Nat.le_refl _):zP:=h
theorem Y92 (h:zP:=by rw[←HL.out];exact hlt):zP:=h
theorem Y93 (h:zP:=by rw[e]):zP:=h
theorem Y94 (h:zP:=by rw[HL.out];exact hgap):zP:=h
theorem Y95 (h:zP:=by unfold kindOk;rw[F3.out,Qw.out];simp;omega):zP:=h
theorem Y96 (h:zP:=by rw[r1];exact og.out):zP:=h
theorem Y97 (h:zP:=by rw[←og.out];omega):zP:=h
theorem Y98 (h:zP:=by simpa using hi'):zP:=h
theorem Y99 (h:zP:=by repeat (first|with_reducible refine (jK _ _).trans ?_|exact zaQ Y3 |refine (Below.heap_alloc _ _ _ Y3).trans ?_|refine (hg4.block _ Y3 (fun e=>by injection e with e;revert e;(first|(with_reducible exact Nat.le_refl _) |(simp only[World.size_alloc,World.size_drew]<;>omega) |omega))).trans ?_|refine (hg5.block _ Y3 (fun e=>by injection e with e;revert e;(first|(with_reducible exact Nat.le_refl _) |(simp only[World.size_alloc,World.size_drew]<;>omega) |omega))).trans ?_)):zP:=h
theorem J1 (h:zP:=by
 obtain ⟨hO,hQ,hL,hA,hB,hC,hN,hm,hw,hW⟩:=vH h;simp only at hO hQ hL hA hB hC hm hw hW;have HF:=Y0 (fun W=>zae hO W);have HA:=Y0 (fun W=>vB xa (Gm o) false W);have HB:=Y0 (fun W=>vB xb (hasB o) (kJ o) W);have HC:=Y0 (fun W=>vB xc (JR o) (gy o) W);rw[hA] at HA;rw[hB] at HB;rw[hC] at HC;have HN:=Y0 (fun W=>zpv W hn hO hN);clear hA hB hC hN h hn hO;have hX:(lib=true∧xw=0)∨(lib=true∧(xw==0)=false∧0<xm∧Gm o=true)∨(lib=false∧xm=0∧xw=0∧o≤22):=by
  by_cases h0:xw=0
  ·cases lib with
   |true=>exact Or.inl ⟨rfl,h0⟩
   |false=>
         rcases hL with e|e
         ·cases e
         ·exact Or.inr (Or.inr ⟨rfl,e.2,h0,e.1⟩)
  ·rcases hW with e|e
   ·exact absurd e h0
   ·cases lib with
    |true=>exact Or.inr (Or.inl ⟨rfl,beq_eq_false_iff_ne.2 h0,e⟩)
    |false=>
          rcases hL with e2|e2
          ·cases e2
          ·have:=e.1;omega
 clear hW hL;exact Q1):zP:=h
theorem J2 (h:zP:=by
 go_wp2_with fail;have PW:Hid (∀aB,Vu w aB K X gc gw P R S1 mF→Calls Tp 100 #[Y (V ⟨K,0,O⟩)] aB fun r w'=>r= .returned (E Z (F.wide+F.narrow))∧Vu w w' K X gc gw P R S1 mF):=Y0 fun aB q=>q.zt2 h5 h6 HA.out.2.2.2.2.2.2;have uX:Hid (∀aB,Vu w aB K X gc gw P R S1 mF→Calls Tp 99 #[Y (V ⟨X,0,O⟩),E Z (17+8* (i:Int)+(F.wide+F.narrow)),E Z cells] aB (zn8 w K X gc gw P R S1 mF (bE F+F.wide.toNat+F.narrow.toNat) cells)):=Y0 fun aB q=>by
  obtain ⟨hk,hb,hbN,hroom,hcells,hwk,hwd⟩:=HA.out;exact q.zzp Y1 hcells Y1
 have iM:Hid (∀W,Vu w W K X gc gw P R S1 mF→W.cell? ⟨K,1007,O⟩=V (Y (V ⟨X,0,O⟩))):=Y0 fun W q=>q.kb.cs 0 dS;have hsum:IntKind.i64.wrap (17+8* (i:Int)+(F.wide+F.narrow))=17+8* (i:Int)+(F.wide+F.narrow):=by
  obtain ⟨hk,hb,hbN,hroom,hcells,hwk,hwd⟩:=HA.out;rw[IntKind.wrap_i64];omega
 have QG:Hid (∀W A,Vu w W K X gc gw P R S1 mF→(W.setCell ⟨K,1008,O⟩ (Y (V ⟨A,0,O⟩))).cell? ⟨K,1007,O⟩=V (Y (V ⟨X,0,O⟩))):=Y0 fun W A q=>q.zpd.kb.cs 0 Y31;have Nz:=Y0 HL.out.drew;have qQ:=iM.out _ Nz.out;go_region_held3 (fun W=>W.cell? ⟨K,1007,O⟩=V (Y (V ⟨X,0,O⟩))) (first|with_reducible exact qQ|with_reducible exact q7|with_reducible exact r7|with_reducible exact s7) (first|(go_at_call 100;refine (PW.out _ Nz.out).mono ?_;rintro e y1 ⟨rfl,hl1⟩;have q7:=iM.out _ hl1) |(go_at_call 99;refine (uX.out _ hl1).mono ?_;rintro e y2 ⟨A,rfl,hl2,hA,hAn⟩;have r7:=iM.out _ hl2;have s7:=QG.out _ A hl2;have r8:y2.cell? ⟨K,1008,O⟩=some v1:=hl2.kb.cs 1 Lu;have rf8:=hl2.kb.frz 1008));go_wp2_with fail;generalize hW:World.setCell _ _ _=wF;go_end0;obtain ⟨RJ,hX,hgc,hgw,RU⟩:=hAn
 have hfin:Vu w wF K X gc gw P R (S1.set 1 (Y (V ⟨A,0,O⟩))) mF∧VR wF A X (Sl none 0 0) ⟨bE F+F.wide.toNat+F.narrow.toNat,cells,[]⟩:=by
  rw[←hW];exact ⟨hl2.zpd,hA.set RU⟩
 rw[lW.out];exact ⟨rfl,X,gc,gw,A,by rw[←Io.out];exact hfin.1,hfin.2,RJ,hX,hgc,hgw⟩):zP:=h
theorem J3 (h:zP:=by
 rcases hX with ⟨rfl,rfl⟩ |⟨rfl,hx0,hx1,hx2⟩ |⟨rfl,rfl,rfl,hx2⟩<;>rcases ho with rfl|rfl|rfl|rfl|rfl|rfl|rfl
 all_goals first
  |exact absurd rfl (hQ rfl)
  |exact absurd hx2 Y2
  |skip
 all_goals (try clear hx2);(try clear hQ)
 all_goals
  simp only[Gm,hasB,JR,Gj,kJ,gy,Int.reduceBEq,Int.reduceLE,decide_true,decide_false,Bool.or_true,Bool.or_false,Bool.and_false] at HF HA HB HC HN
  go_enter Tryz.func210,Tryz.ntmps210
  go_wp2_with fail
  refine (HF.out _).mono ?_
  rintro e w1 ⟨rfl,rfl⟩
  go_wp2_with fail
  refine (HA.out _).mono ?_
  rintro e w1 ⟨rfl,rfl⟩
  go_wp2_with fail
  refine (HB.out _).mono ?_
  rintro e w1 ⟨rfl,rfl⟩
  go_wp2_with fail
  refine (HC.out _).mono ?_
  rintro e w1 ⟨rfl,rfl⟩
  go_wp2_with fail
  refine (HN.out _).mono ?_
  rintro e w1 ⟨rfl,hb1⟩
  have aL:=Y0 hb1
  have x5:=(hb1.cell (p:=⟨w.heap.size,5,O⟩) Y7).trans (World.cell?_alloc_at _ _ _ _ rfl)
  have x6:=(hb1.cell (p:=⟨w.heap.size,6,O⟩) Y7).trans (World.cell?_alloc_at _ _ _ _ rfl)
  clear hb1
  go_wp2_with fail
  go_ret
  exact ⟨rfl,((Below.refl _ _).alloc (Nat.le_refl _) _).trans (aL.out.mono Y7)⟩):zP:=h
theorem J4 (h:zP:=by
 go_enter Tryz.func73,Tryz.ntmps73;go_wp2_with fail;refine aX.out.mono ?_;rintro e w1 ⟨m,rfl,hm,q,hw1⟩;have hx1:zT w1 X x:=Y48;have hK1:Keeps (fun i=>i=X) w w1:=Y25;have hc4:w1.cell? ⟨R,4,O⟩=V (E Z (ln:Int)):=Y29;clear hw1 aX;obtain ⟨o0,o1,o2,o3,o4,o5,o6,of⟩:=hx1.cell;have hlt:=hx1.lt;exact Q4):zP:=h
theorem J5 (h:zP:=by
 obtain ⟨p,hp⟩:=Int.eq_ofNat_of_zero_le h.ok.pc.1;have hpl:p<l.length:=by
  unfold Zc at hx;rw[if_neg Y1] at hx;have:=(List.getElem?_eq_some_iff.1 hx).1;omega
 have hxl:l[p]=x:=by
  unfold Zc at hx;rw[if_neg Y1,hp] at hx;exact Option.some.inj ((List.getElem?_eq_getElem hpl).symm.trans hx)
 have hxm:x∈l:=by rw[←hxl];exact List.getElem_mem hpl
 have hmx:=hmay x hxm;have nK:=hlv x hxm;have oG:(0:Int)≤(p:Int)∧(p:Int)<(l.length:Int):=Y1;have yC:(1:Int)≤(l.length:Int)∧(l.length:Int)≤2048:=Y1;obtain ⟨cp,-,-,-⟩:=h.cells;rw[hp] at cp;have sj:f.pc+1=(p:Int)+1:=by rw[hp]
 have hpw:IntKind.i64.wrap ((p:Int)+1)=(p:Int)+1:=gT;have dY:Hid (∀W,Calls Tp 233 #[.agg (zS x),E Z l.length] W fun e w'=>e=Rt (.bool true)∧Below W.heap.size W w'):=Y0 fun W=>zgW x l.length lib W Y1 nK.1 hmx;have Nf:Hid (∀W,Below w.heap.size w W→vK W g l):=Y0 fun W hW=>hc.below hg hW;have wE:Hid (∀W,Below w.heap.size w W→W.cell? ⟨b,o,O⟩=V (E Z p)):=Y0 fun W hW=>(hW.cell (p:=⟨b,o,O⟩) h.lens.lt).trans cp;obtain ⟨c0,c1,c2,c3,c4,c5,c6⟩:w.cell? ⟨g,p*7,O⟩=V (E Z x.op)∧w.cell? ⟨g,p*7+1,O⟩=V (E Z x.a)∧w.cell? ⟨g,p*7+2,O⟩=V (E Z x.b)∧w.cell? ⟨g,p*7+3,O⟩=V (E Z x.c)∧w.cell? ⟨g,p*7+4,O⟩=V (E J x.v)∧w.cell? ⟨g,p*7+5,O⟩=V (E Z x.m)∧w.cell? ⟨g,p*7+6,O⟩=V (E Z x.w):=hc.cells hpl hxl;have HG:=Y0 hg;have wD:=Y0 h.lens.lt;exact Q5):zP:=h
theorem J6 (h:zP:=by
 obtain ⟨s0,v0,-,-⟩:=h.reg hi fa 0 Y2;obtain ⟨s1,v1,-,-⟩:=h.reg hi fa 1 Y2;obtain ⟨s2,v2,-,-⟩:=h.reg hi fa 2 Y2;obtain ⟨s3,v3,-,-⟩:=h.reg hi fa 3 Y2;have r0:w.cell? ⟨b,1,O⟩=V (E J a0):=by rw[←e0];simpa using s0
 have r1:w.cell? ⟨b,2,O⟩=V (E J a1):=by rw[←e1];simpa using s1
 have r2:w.cell? ⟨b,3,O⟩=V (E J a2):=by rw[←e2];simpa using s2
 have r3:w.cell? ⟨b,4,O⟩=V (E J a3):=by rw[←e3];simpa using s3
 have u0:Zm a0:=by rw[←e0];exact v0
 have u1:Zm a1:=by rw[←e1];exact v1
 have u2:Zm a2:=by rw[←e2];exact v2
 have u3:Zm a3:=by rw[←e3];exact v3
 clear s0 s1 s2 s3 v0 v1 v2 v3;have harr: ∀(W:World) (a:Option Addr),(Instr.arrayAt 72 (.slice a 4 32)).run Tp W= .ok (.pointer a) W:=fun W a=>by kernel_rfl
 obtain ⟨w1,hw1⟩: ∃w1,w1=w.alloc (Ce #[E J a0,E J a1,E J a2,E J a3] 72):=⟨_,rfl⟩;have l3:Below w.heap.size w w1:=Y70;have l1:w1.heap[w.heap.size]?=V (Ce #[E J a0,E J a1,E J a2,E J a3] 72 (0,0)):=Y34;have h1:=h.below l3;have t1:Touch (fun t=>t≠ .other) w w1 own (ext own w.heap.size .other):=zU l3;have B1:zX w1 (ext own w.heap.size .other) w.heap.size #[E J a0,E J a1,E J a2,E J a3] 72:=⟨l1,Zo (Or.inr (Nat.le_refl _))⟩;generalize ext own w.heap.size .other=aC at h1 t1 B1;have H1:=Y0 h1;have fq:=Y0 t1;have aL:=Y0 B1
 have ng:Hid (Calls Tp 111 #[Y (V ⟨G.K,0,O⟩), .agg #[E Z 1,E Z 0,E Z 0,E J id,E Z num,E J a0,E J a1,E J a2,E J a3,E J 0,E J 0]] w1.drew fun e W=>e=Rt (.tuple #[])∧KO F w1.drew aC G (tell M (ZJ id num a0 a1 a2 a3)) n W):=Y0 (KA h1.drew (ZJ id num a0 a1 a2 a3) Y1)
 have Il:Hid (∀W o,zi F W o G (tell M (ZJ id num a0 a1 a2 a3)) n→Calls Tp 240 #[Y (V ⟨G.K,0,O⟩),Y (V ⟨G.tb id,0,O⟩),E Z num, .agg #[E J a0,E J a1,E J a2,E J a3]] W fun e w'=>e=Rt (E J (refused F M r num a0 a1 a2 a3))∧KO F W o G (tell M (ZJ id num a0 a1 a2 a3)) n w'):=Y0 fun W o q=>zhs (M:=tell M (ZJ id num a0 a1 a2 a3)) q hr num hnum a0 a1 a2 a3 u0 u1 u2 u3;have ct:w1.cell? ⟨G.tb id,0,O⟩=V (E J id):=(h1.ZB hr).1;have x0:w1.cell? ⟨w.heap.size,0,O⟩=V (E J a0):=B1.cells.2 0;have x1:w1.cell? ⟨w.heap.size,1,O⟩=V (E J a1):=B1.cells.2 1;have x2:w1.cell? ⟨w.heap.size,2,O⟩=V (E J a2):=B1.cells.2 2;have x3:w1.cell? ⟨w.heap.size,3,O⟩=V (E J a3):=B1.cells.2 3;exact Q6):zP:=h
theorem J7 (h:zP:=by
 refine zuB h hs hn hF x hx fun w7 nN cb wb eb fw n u1 u2 u4 u6 u7 u10 u11 u12 u13 u14 u15 u16 u17 u18 u19 u20 u21 u22 u23 u24 u25 u26 u27 u28 u29 u30 u31 u32 u33 u34 u35 u36 u37 u38 u39 u40 u41 u42 u43 u44 u45 u46 u47 u48 u49 u50 u51 u52 u53 u54 u55 u56 u57 u58 u59 u60 u61 u62 u63 u64 u65 u66 u67 u68 u69 u70 u71 u72 u73 u74 u75 u76 u77 u78 u79 u80 u81 u82 u83 u84 u85 u86 u87 u88 u89 u90 u91 u92 u93 u94 u95 u96 u97 u98 u99 u100 u101 u102 u103 u104 u105 u106 u107 u108 u109 u110 u111 u112 u113 u114 u115 u116 u117 u118 u119 u120 u121 u122 u123 u124 u125 u126 u127 u128 u129 u130 u131 u132 u133 u134 u135 u136 u137 u138 u139 u140 u141 u142 u143 u144 u145 u146 u147 u148 u149 u150 u151 u152 u153 u154 u155 u156 u157 u158 u159 u160 u161 u162 u163 u164 u165 u166 u167 u168 u169 u170 u171 u172 u173 u174 hnE hW7 dU gc gw he oc ow hap=>?_
 refine zx1 hW7 hne hF oF hdue x hxd hn hc hlen gc gw he oc ow hap (fun w4 dx tb fb ov v' cs' u1 u2 u3 u4 u6 u7 u11 u12 u13 u14 u15 u16 u17 u18 u19 u20 u21 u22 u23 u24 u25 u26 u27 u28 u29 u30 u31 u32 u33 u34 u35 u36 u37 u38 u39 u40 u41 u42 u43 u44 u45 u46 u47 u48 u49 u50 u51 u52 u53 u54 u55 u56 u57 u58 u59 u60 u61 u62 u63 u64 u65 u66 u67 u68 u69 u70 u71 u72 u73 u74 u75 u76 u77 u78 u79 u80 u81 u82 u83 u84 u85 u86 u87 u88 u89 u90 u91 u92 u93 u94 u95 u96 u97 u98 u99 u100 u101 u102 u103 u104 u105 u106 u107 u108 u109 u110 u111 u112 u113 u114 u115 u116 u117 u118 u119 u120 u121 u122 u123 u124 u125 u126 u127 u128 u129 u130 u131 u132 u133 u134 u135 u136 u137 u138 u139 u140 u141 u142 u143 u144 u145 u146 u147 u148 u149 u150 u151 u152 u153 u154 u155 u156 u157 u158 u159 u160 u161 u162 u163 u164 u165 u166 u167 u168 u169 u170 u171 u172 u173 u174 hT=>?_) u1 u2 u4 u6 u7 u10 u11 u12 u13 u14 u15 u16 u17 u18 u19 u20 u21 u22 u23 u24 u25 u26 u27 u28 u29 u30 u31 u32 u33 u34 u35 u36 u37 u38 u39 u40 u41 u42 u43 u44 u45 u46 u47 u48 u49 u50 u51 u52 u53 u54 u55 u56 u57 u58 u59 u60 u61 u62 u63 u64 u65 u66 u67 u68 u69 u70 u71 u72 u73 u74 u75 u76 u77 u78 u79 u80 u81 u82 u83 u84 u85 u86 u87 u88 u89 u90 u91 u92 u93 u94 u95 u96 u97 u98 u99 u100 u101 u102 u103 u104 u105 u106 u107 u108 u109 u110 u111 u112 u113 u114 u115 u116 u117 u118 u119 u120 u121 u122 u123 u124 u125 u126 u127 u128 u129 u130 u131 u132 u133 u134 u135 u136 u137 u138 u139 u140 u141 u142 u143 u144 u145 u146 u147 u148 u149 u150 u151 u152 u153 u154 u155 u156 u157 u158 u159 u160 u161 u162 u163 u164 u165 u166 u167 u168 u169 u170 u171 u172 u173 u174
 have k7:Keeps (fun b=> ¬Q b) w w4:=(Keeps.zO (X:=fun b=> ¬Q b) dU).trans hT.k fun b e=>Or.inl e;exact Q7):zP:=h
theorem J8 (h:zP:=by
 go_wp2_with fail;have q1:(w.setCell ⟨X,3,O⟩ (E Z (wrap64 (ct+1)))).cell? ⟨gc,k,O⟩=V (E J was):=(World.cell?_of_block (a:=⟨gc,k,O⟩) (zm (fun e=>n1 e.symm))).trans g1;have q2:(w.setCell ⟨X,3,O⟩ (E Z (wrap64 (ct+1)))).frozen? ⟨gc,k,O⟩=false:=(World.frozen?_of_block (a:=⟨gc,k,O⟩) (zm (fun e=>n1 e.symm))).trans g2;generalize (w.setCell ⟨X,3,O⟩ (E Z (wrap64 (ct+1))))=w1 at HW HK q1 q2 ⊢;have o8:Hid (Zn w1.drew X gc gw m):=Y0 (HW.out.zk fun _ _=>rfl);have dP:Hid (Keeps (fun b=>b=X∨b=gc) w w1.drew):=Y0 HK.out.drew;have q0:w1.drew.cell? ⟨X,0,O⟩=V (Sl (V ⟨gc,0,O⟩) n n):=by
  obtain ⟨_,_,ho⟩:=o8.out.obj;rw[ze ho,og.out];rfl
 replace q1:w1.drew.cell? ⟨gc,k,O⟩=V (E J was):=q1;replace q2:w1.drew.frozen? ⟨gc,k,O⟩=false:=q2;go_region_with (go_at_call 213;refine (HC.out _).mono ?_;rintro e w2 ⟨rfl,rfl⟩);all_goals
  go_wp2_with fail
  go_ret2
  exact ⟨rfl,by have:=o8.out.laid (k:Int) _ QY.out;rwa[Int.toNat_natCast] at this,dP.out.setCell (p:=⟨gc,k,O⟩) (Or.inr rfl) _⟩):zP:=h
theorem J9 (h:zP:=by
 intro v' w1 hown' hgrow _;obtain ⟨hrow',hb'⟩:=zcF (hown.alloc _) (hrow.alloc _) Y2 (hb.alloc hb.size _) (by have:=hb.size;simp;omega) hgrow;clear hrow hown hb hgrow hcl hfr;obtain ⟨A,hA,hnews,q1,q2,q3,hcap,hcap2⟩:=zsn hrow' FB (ziM left);have hic:p≤cap:=Y1;have hwr:IntKind.i64.wrap ((p:Int)+1)=(p:Int)+1:=gT;have hp0:(0:Int)≤(p:Int)+1:=Y1;have hp1:(p:Int)+1≤(F':Int)+1:=Y1;have hp2:((p:Int)+1).toNat=p+1:=Y1;have HR:=Y0 hrow';clear hrow';go_wp2_with fail;go_region_law (refine step_append_room rfl (.tmp 65) (.tmp 69) 76 rfl 3 i3 1 Tryz.underlying76 hi3 hs3 g 0 p cap Y62 A (F'+1 - (p+1)) (cap - (p+1)) ((VA left).drop (p+1)) Y62 q1.out hnews.out q2.out Y1 q3.out ?_);have hdel:=zja (show (w1.drew).ownsRow w.heap.size 3 1 (Sl (V ⟨g,0,O⟩) (F'+1) cap) (F'+1) (VA left) from HR.out.drew) FB
 have hoth:=(show (w1.drew).ownsRow w.heap.size 39 3 v' (l.length+1) _ from hown'.drew).kept (zbG (g:=g) ((VA left).drop (p+1)) p) (BH (hown'.drew) (HR.out.drew) Y2);have hbb:=below_setCells hb'.drew hgB ((VA left).drop (p+1)) p;clear hb' hown' hnews q1 q2 q3 hA hwr;generalize hws:w1.drew.setCells g p ((VA left).drop (p+1))=ws at hdel hoth hbb;have hlen:(left.eraseIdx p).length=F':=by rw[List.length_eraseIdx_of_lt (by have:=HF.out;omega),←HF.out];omega
 have hd2:ws.ownsRow w.heap.size 3 1 (Sl (V ⟨g,0,O⟩) (p+(F' - p)) cap) (left.eraseIdx p).length (VA (left.eraseIdx p)):=by
  rw[show p+(F' - p)=F' by omega,hlen,←zeD];exact hdel
 have ho2:ws.ownsRow w.heap.size 39 3 v' (l++ [ent m x d]).length (vR (l++ [ent m x d])):=by
  rw[zax,List.length_append,hent.out];exact hoth
 have mh:(l++ [ent m x d]).length+(left.eraseIdx p).length≤65*k+65:=by rw[List.length_append,hlen];simp;omega
 have HD:=Y0 hd2;have HO:=Y0 ho2;have wN:=Y0 mh;clear hdel hoth hd2 ho2 mh hlen hws;go_wp2;go_roundw;have hd2:=HD.out;have ho2:=HO.out;have mh:=wN.out;case rel=>
  (repeat apply Exists.intro);exact ⟨⟨l++ [ent m x d],left.eraseIdx p,s2,rfl,⟨MI,sI⟩,hd2,ho2,hbb,mh,fun y hy=>Hq.out y (List.mem_of_mem_eraseIdx hy),zqq HF.out HG.out HS.out HX.out FB⟩,rfl⟩
 case measure=>simp[zwU,Act.put];omega):zP:=h
theorem J10 (h:zP:=by
 have k0:W.cell? ⟨G.K,3,O⟩=some G.pv:=H3.out.Vb fun _ _ hc=>hc.code;rw[j4.out] at k0;have qG:=HS.out;unfold shV at qG;have qG:=Y0 qG;clear HS;have dQ:Hid (∀W',(∃q,W'=W.drewN q)→Calls Tp 180 #[Y (V ⟨b,0,O⟩),Sl (V ⟨g,0,O⟩) L c, .iface 337 (.agg #[Y (V ⟨G.K,0,O⟩),E J id,E Z xo])] W' fun e w'=>(∃ev,e=Rt (.tuple #[E Z 1,ev]))∧KO F W aC G M2 n2 w'∧w'.cell? ⟨G.K,3,O⟩=V (Sl (V ⟨g,0,O⟩) L c)∧w'.cell? ⟨G.tb id,0,O⟩=V (E J id)∧w'.cell? ⟨w.heap.size,0,O⟩=V (E Z xo)):=Y0 fun W' ⟨q,hq⟩=>by
  exact J36
 have t0:W.cell? ⟨G.tb id,0,O⟩=V (E J id):=NU.out _ _ H3.out;have x0:W.cell? ⟨w.heap.size,0,O⟩=V (E Z xo):=D4.out.cells.2 0;go_region_held3 (fun aB=>aB.cell? ⟨G.K,3,O⟩=V (Sl (V ⟨g,0,O⟩) L c)∧aB.cell? ⟨G.tb id,0,O⟩=V (E J id)∧aB.cell? ⟨w.heap.size,0,O⟩=V (E Z xo)) (first|exact ⟨k0,t0,x0⟩ |exact ⟨u0,u1,u2⟩ |go_keep) (first|(go_at_call 180;refine (dQ.out _ ⟨1,rfl⟩).mono ?_;rintro e w3 ⟨⟨ev,rfl⟩,hk,u0,u1,u2⟩));obtain ⟨dx,h4,t4⟩:=hk;have E4:=D4.out.move t4;have PY:=Y0 E4;have H4:=Y0 h4;have mZ:=Y0 (dG.out.trans t4);clear u0 u1 u2 t4 k0 t0 x0 dQ H3 dG D4 qG;obtain ⟨p0,p1,p2,hb⟩:=h4.bump HI.out mQ.out;have HB:=Y0 hb;have y4:w3.cell? ⟨w.heap.size,4,O⟩=V (E J xv):=E4.cells.2 4;clear h4 E4 hb;generalize (zA M2 i (some id)).pc=pc2 at*;have hpw:IntKind.i64.wrap (pc2+1)=pc2+1:=gT
 have hxw:IntKind.i64.wrap xv=xv:=gT;go_wp2_with fail;obtain ⟨aV,h5,t5⟩:=HB.out;refine (HC.out _ _ h5 (mZ.out.trans t5)).mono ?_;rintro e w6 ⟨rfl,hq⟩;have HQ:=Y0 hq;clear hq h5 t5;go_wp2_with fail;go_end0;exact ⟨rfl,HQ.out⟩):zP:=h
theorem J11 (h:zP:=by
 have hb:=HB.out nq;have h1:=H.out.below hb;have HT:=Y0 (zU (ts:=fun t=>t≠ .other) (t:= .other) (own:=own) hb);have BO:Hid (ext own w.heap.size .other w.heap.size= .other):=Y0 (Zo (Or.inr (Nat.le_refl _)));have BZ:Hid (((w.alloc (Ce #[E Z xo,E Z k,E Z xb,E Z xc,E J xv,E Z xm,E Z xw] 111)).drewN nq).heap[w.heap.size]?=V (Ce #[E Z xo,E Z k,E Z xb,E Z xc,E J xv,E Z xm,E Z xw] 111 (0,0))):=HZ;generalize (w.alloc (Ce #[E Z xo,E Z k,E Z xb,E Z xc,E J xv,E Z xm,E Z xw] 111)).drewN nq=w1 at*;generalize w.heap.size=bx at*;generalize ext own bx .other=aC at*;clear hb;exact Q11):zP:=h
theorem J12 (h:zP:=by
 obtain ⟨k,hk⟩:=Int.eq_ofNat_of_zero_le ha.1;have hk2:k<32:=Y1;have dL:(0:Int)≤(k:Int)∧(k:Int)<32:=Y1;obtain ⟨MQ,ua,fa1,Dy⟩:=h.reg hi fa k hk2;obtain ⟨xo,xa,xb,xc,xv,xm,xw⟩:=x;simp only at ho hk ⊢;subst hk;have e30:=ZH ho 30;have e33:=ZH ho 33;have e34:=ZH ho 34;have e35:=ZH ho 35;simp only[Int.reduceEq,decide_true,decide_false] at e30 e33 e34 e35;clear ho;unfold zS;have hB: ∀q,Below w.heap.size w ((w.alloc (Ce #[E Z xo,E Z k,E Z xb,E Z xc,E J xv,E Z xm,E Z xw] 111)).drewN q):=fun q=>KD ((Below.refl _ _).alloc (Nat.le_refl _) _) q;have hz:=heap_alloc_new w (.cells #[E Z xo,E Z k,E Z xb,E Z xc,E J xv,E Z xm,E Z xw] 111);have H:=Y0 h;have HI:=Y0 hi;have iD:=Y0 fa;have HB:=Y0 hB;have HZ:=Y0 hz;have NZ:=Y0 ua;obtain ⟨k7,k8,k9,kr,kq,kt,ko,kh⟩:=h.Vz
 have hK:=h.klt;obtain ⟨cs,ch,-,-,cf⟩:=h.vU hi;have hgW:G.gW<w.heap.size:=by
  obtain ⟨P,S,bv,q,-⟩:=h.wk.at (h.bV hi);exact q.lens.lt
 have QV:=Y0 (h.Ja hi);exact Q12):zP:=h
theorem J13 (h:zP:=by
 clear Lc xA Ep hto hall h4 h3 h5 hlt;go_enter Tryz.func205,Tryz.ntmps205;go_wp2;go_loop [4,5] (fun nv iv=> ∃k:Nat,k≤s.size∧1≤k∧iv=E Z k∧nv=E Z (Gc s.data.toList k)∧Hid (∀j (hj:j<s.size),1≤j→j<k→isDigit s[j]=true)) (fun _ iv=>s.size - (intOf iv).toNat);case atStart=>exact ⟨1,by omega,by omega,rfl,rfl,Y0 (fun j _ h1 h2=>by omega)⟩
 case round=>
  obtain ⟨k,hk,hk1,rfl,rfl,HD⟩:=hrel;have dL:(k:Int)≤(s.size:Int):=Y1;have SK:(1:Int)≤(k:Int):=Y1;obtain ⟨hb1,hb2⟩:=oP.out k hk hk1 HD.out;obtain ⟨a,ha⟩: ∃a:Int,a=(Gc s.data.toList k:Int):=⟨_,rfl⟩;have Sy:a≤99:=Y1;have Sw:0≤a:=Y1;by_cases hlt:k<s.size
  ·have aH:(k:Int)<(s.size:Int):=Y1;have hto:=oh.out k hlt hk1;have hb3:a≤9:=Y1;by_cases hdg:isDigit s[k]=true
   ·obtain ⟨d1,d2⟩:=(ZX _).1 hdg;have cu:Hid (∀j (hj:j<s.size),1≤j→j<k+1→isDigit s[j]=true):=Y0 (fun j hj h1 h2=>by
     by_cases e:j=k
     ·subst e;exact hdg
     ·exact HD.out j hj h1 Y1)
    have aD:Hid (10*a+((s[k].toNat:Int) - 48)=(Gc s.data.toList (k+1):Int)):=Y0 (by rw[hto];omega);have HA:=Y0 ha;rw[←ha];clear hdg hto hb1 hb2 ha;go_wp2;go_round;case rel=>exact ⟨k+1,by omega,by omega,by go_num,by rw[aD.out],cu⟩
    case measure=>simp[intOf];omega
   ·have hr:=aX.out k hlt hk1 Y90;have hnd: ¬(48≤(s[k].toNat:Int)∧(s[k].toNat:Int)≤57):=fun h=>hdg ((ZX _).2 h);have HR:=Y0 hr;clear hdg hr hto hb1 hb2 ha;by_cases hlo:(s[k].toNat:Int)<48
    ·go_wp2;go_ret2;exact jC _ HR.out
    ·have hhi:(57:Int)<(s[k].toNat:Int):=Y1;clear hnd;go_wp2;go_ret2;exact jC _ HR.out
  ·obtain rfl:k=s.size:=Y1;have hfin:=aS.out (fun j hj h1=>HD.out j hj h1 hj);rw[←ha] at hfin ⊢;have HF:=Y0 hfin;clear hfin ha hb1 hb2;go_wp2;go_ret2;exact ⟨a,by rw[HF.out.1];rfl,HF.out.2,rfl⟩):zP:=h
theorem J14 (h:zP:=by
 generalize F.code.length=L at*;simp only at*;go_enter Tryz.func119,Tryz.ntmps119;go_wp2_with fail;try rw[←hw1]
 clear hw1;go_quiet (fail);go_wp2_with fail;obtain ⟨w2,hw2⟩: ∃w2,w2=w1.drewN nq:=⟨_,rfl⟩;have dO:Hid (Touch (fun t=>t≠ .other) w w2 own aC):=Y0 Y26;have H2:Hid (zi F w2 aC G M n):=Y0 Y56;have C4:Hid (zX w2 aC w.heap.size _ 111):=Y0 Y55;obtain ⟨e0,e1,e2,e3,e4,e5,e6⟩:w2.cell? ⟨g,p*7,O⟩=V (E Z xo)∧w2.cell? ⟨g,p*7+1,O⟩=V (E Z xa)∧w2.cell? ⟨g,p*7+2,O⟩=V (E Z xb)∧w2.cell? ⟨g,p*7+3,O⟩=V (E Z xc)∧w2.cell? ⟨g,p*7+4,O⟩=V (E J xv)∧w2.cell? ⟨g,p*7+5,O⟩=V (E Z xm)∧w2.cell? ⟨g,p*7+6,O⟩=V (E Z xw):=by rw[hw2];exact ⟨c0,c1,c2,c3,c4,c5,c6⟩
 have d0:w2.cell? ⟨G.K,3,O⟩=V (Sl (V ⟨g,0,O⟩) L c):=by rw[hw2];exact k0
 have d1:w2.cell? ⟨b,0,O⟩=V (E Z (p:Int)):=by rw[hw2];exact cp
 rw[←hw2];clear hw2 c0 c1 c2 c3 c4 c5 c6 k0 cp Ae uz hg hb1;go_still_tail 12,Y4;change wpList _ _ _ _ _ w2.drew;have H3:Hid (zi F w2.drew aC G M n):=Y0 H2.out.drew;have dG:Hid (Touch (fun t=>t≠ .other) w w2.drew own aC):=Y0 (dO.out.trans (Zv w2 aC));have qU:zX w2.drew aC w.heap.size _ 111:=C4.out;generalize w2.drew=wd at H3 dG qU ⊢;obtain ⟨f6,g6⟩:=qU.cells;have CU:=g6 0;have CV:=g6 1;have CW:=g6 2;have CX:=g6 3;have CY:=g6 4;have CZ:=g6 5;have C8:=g6 6;go_wp2_with fail;generalize hW:World.setCell _ _ _=W;obtain ⟨MU,K7⟩:=qU.zq5 _ _ _ _ _ _ _ hW.symm;have D4:Hid (zX W aC w.heap.size #[E Z xo,E Z xa,E Z xb,E Z xc,E J xv,E Z xm,E Z xw] 111):=Y0 MU;have H3:=Y0 (H3.out.boxed K7 qU.2);have dG:=Y0 (dG.out.boxed K7 (Nat.le_refl _))
 clear hW K7 qU MU CU CV CW CX CY CZ C8 f6 g6 e0 e1 e2 e3 e4 e5 e6 d0 d1 H2 C4 dO;exact Q14):zP:=h
theorem J15 (h:zP:=by
 have hb5:Below W.heap.size W W4:=((Below.refl _ W).drew).trans hb4;have QB:=Y0 (yR.out.below hb5);have EU:=Y0 (yN.out.trans (Keeps.zO (X:=Of hb mb (Sl (V ⟨g,0,O⟩) n cap)) hb5) fun _ hx=>Or.inl hx);clear hb4 hb5;have hR2:=QB.out;rw[dW.out] at hR2;have aI:=Y0 (Kt hR2 k ⟨td,tw,th⟩ Y16 (by have:=HL.out;have:=H1.out;omega) (by have:=HN.out;have:=HI.out;have:=HL.out;have:=H2.out;have:=og.out;omega) NW.out);unfold bP at aI;dsimp only at aI;rw[←dW.out] at aI;have iP:=Y0 (fun W2 hRaw hK=>KR.done (w:=w) (w1:=w.alloc (Ce #[E J td,E J tw,E Z th] 366)) (wr:=wr) (w2:=W2) (k:=k) (rb:=rb) (last:=last) (N:=N+i0) HA.out Y27 H1.out H2.out H6.out H7.out ((Keeps.refl _ w).alloc _) H8.out hh hRaw (Keeps.trans (EU.out) hK fun _ hx=>Or.inl hx));clear hR2 hh;exact J54):zP:=h
theorem J16 (h:zP:=by
 have k0:W.cell? ⟨G.K,3,O⟩=some G.pv:=H3.out.Vb fun _ _ hc=>hc.code;rw[j4.out] at k0;have qG:=HS.out;unfold shV at qG;have qG:=Y0 qG;clear HS;have dQ:Hid (∀W',(∃q,W'=W.drewN q)→Calls Tp 180 #[Y (V ⟨b,0,O⟩),Sl (V ⟨g,0,O⟩) L c, .iface 337 (.agg #[Y (V ⟨G.K,0,O⟩),E J id,E Z xo])] W' fun e w'=>(∃ev,e=Rt (.tuple #[E Z 0,ev]))∧KO F W aC G M2 n2 w'∧w'.cell? ⟨G.K,3,O⟩=V (Sl (V ⟨g,0,O⟩) L c)∧w'.cell? ⟨G.tb id,0,O⟩=V (E J id)∧w'.cell? ⟨w.heap.size,0,O⟩=V (E Z xo)):=Y0 fun W' ⟨q,hq⟩=>by
  exact J36
 have t0:W.cell? ⟨G.tb id,0,O⟩=V (E J id):=NU.out _ _ H3.out;have x0:W.cell? ⟨w.heap.size,0,O⟩=V (E Z xo):=D4.out.cells.2 0;go_region_held3 (fun aB=>aB.cell? ⟨G.K,3,O⟩=V (Sl (V ⟨g,0,O⟩) L c)∧aB.cell? ⟨G.tb id,0,O⟩=V (E J id)∧aB.cell? ⟨w.heap.size,0,O⟩=V (E Z xo)) (first|exact ⟨k0,t0,x0⟩ |exact ⟨u0,u1,u2⟩ |go_keep) (first|(go_at_call 180;refine (dQ.out _ ⟨1,rfl⟩).mono ?_;rintro e w3 ⟨⟨ev,rfl⟩,hk,u0,u1,u2⟩));obtain ⟨dx,h4,t4⟩:=hk;have E4:=D4.out.move t4;have PY:=Y0 E4;have H4:=Y0 h4;have mZ:=Y0 (dG.out.trans t4);clear u0 u1 u2 t4 k0 t0 x0 dQ H3 dG D4 qG;clear h4 E4;go_wp2_with fail;go_end0;exact ⟨rfl,dx,H4.out,mZ.out⟩):zP:=h
theorem J17 (h:zP:=by
 have wQ:=Y0 hOf;have dR:=Y0 hCell;obtain ⟨h1,h2,h3,h4,h5,h6,h7,h8⟩:=hns;clear hOf hCell;go_enter Tryz.func72,Tryz.ntmps72;go_wp2_with fail;refine wQ.out.mono ?_;rintro e w1 ⟨rfl,hb1⟩;unfold zd6;have aL:=Y0 hb1;clear hb1;go_upto_region 18 with fail;exact Q17):zP:=h
theorem J18 (h:zP:=by
 have h6:=@run_callFunc_extern Tp 65 _ (fun args=>ReflectliteValue.unpack (args.getD 0 (.tuple #[]))) Tryz.func65 Y4 Y4 Y4 Y4;have h7:=@run_callFunc_extern Tp 66 _ (ReflectliteValue.methodAny (ReflectliteValue.valueError "reflectlite.Value.Type" 0) (fun t _ _ _=>ReflectliteType.toType t)) Tryz.func66 Y4 Y4 Y4 Y4
 have h8:=@run_callFunc_extern Tp 67 _ (ReflectliteValue.method (ReflectliteValue.valueError "reflectlite.Value.IsNil" 0) ReflectliteValue.isNil) Tryz.func67 Y4 Y4 Y4 Y4
 have h27:=@run_callFunc_extern Tp 326 _ (ReflectliteType.abiMethod fun t=>do pure (.int .u8 (←Rtype.kind t))) Tryz.func326 Y4 Y4 Y4 Y4;have h37:=@run_callFunc_extern Tp 348 _ (ReflectliteType.method ReflectliteType.elem) Tryz.func348 Y4 Y4 Y4 Y4;have h38:=@run_callFunc_extern Tp 349 _ (ReflectliteType.relation "Implements" ReflectliteType.implements_) Tryz.func349 Y4 Y4 Y4 Y4
 have h10:=@run_callFunc_extern Tp 127 _ ReflectliteType.typeOf Tryz.func127 Y4 Y4 Y4 Y4;have Lb:=@run_callFunc_extern Tp 346 _ (ReflectliteType.relation "AssignableTo" ReflectliteType.assignableTo) Tryz.func346 Y4 Y4 Y4 Y4
 exact Q18):zP:=h
theorem J19 (h:zP:=by
 obtain ⟨c0,-,-,c3,fw⟩:=h.vU hi;obtain ⟨g,c,l,CS,hll,cg,-,hgl,hlc⟩:=h.zeL hr hne;have hlen:r.l.length≤100:=(h.runs.each r (Za hr).1).few;have yC:(0:Int)≤(l:Int)∧(l:Int)<(l:Int)+1:=Y1;have hl2:(l:Int)≤99:=Y1;have hwr:IntKind.i64.wrap ((l:Int)+1 - 1)=(l:Int):=gT;have cl:=h.zsQ hr hne hll;rw[iG] at cl;rw[hs] at c0;obtain ⟨Rc,-,-,⟨L6,yB⟩,-⟩:=h.ZB hr;have TS:w.cell? ⟨G.K,1014,O⟩=V (.map (some G.th)):=h.Vb fun _ _ hc=>hc.th;have hlk: ∀nq,(Instr.lookup 86 (.map (some G.th)) (E J id) false).run Tp (w.drewN nq)= .ok (Y (V ⟨G.tb id,0,O⟩)) (w.drewN nq):=fun nq=>by
  have:=(h.drewN nq).look id yB;rw[hr] at this;exact this
 have hz:(id==0)=false:=beq_eq_false_iff_ne.2 L6;have hwk:=h.Ja hi;obtain ⟨hmx,hm0,hm1⟩:=zqh hwk.left;have hlf:=hwk.left;have hsub:IntKind.i64.wrap ((zl M i).left - 1)=(zl M i).left - 1:=gT;have HP:Hid (∀q,zi F ((w.drewN q).setCell ⟨G.gW,i*38+3,O⟩ (E Z (Vp (zl M i).left))) own G (setW M i { zl M i with left:=Vp (zl M i).left}) n∧Touch (fun t=>t≠ .other) w ((w.drewN q).setCell ⟨G.gW,i*38+3,O⟩ (E Z (Vp (zl M i).left))) own own):=Y0 fun q=>by
  have hp:=(h.drewN q).jB hi (j:=3) Y2 (v:=E Z (Vp (zl M i).left)) (k':={ zl M i with left:=Vp (zl M i).left}) rfl rfl hwk.slot hwk.hand ⟨hm0,hm1⟩;exact ⟨hp.1,(ZW w own q).trans (hp.2.mono fun t e=>by rw[e];nofun)⟩
 have HC:=Y0 HC;rw[hll,Nat.add_sub_cancel] at HC;have fw3:=fw (i*38+3);exact Q19):zP:=h
theorem J20 (h:zP:=by
 obtain ⟨w1,hw1⟩: ∃w1,w1=(w.alloc (Ce (zS Gw) 111)):=⟨_,rfl⟩;have l3:Below w.heap.size w w1:=Y70;have l1:w1.heap[w.heap.size]?=V (Ce (zS Gw) 111 (0,0)):=Y34;have h1:=h.below l3;have t1:Touch (fun t=>t≠ .other) w w1 own (ext own w.heap.size .other):=zU l3;have B4:zX w1 (ext own w.heap.size .other) w.heap.size (zS Gw) 111:=⟨l1,Zo (Or.inr (Nat.le_refl _))⟩;generalize ext own w.heap.size .other=aC at h1 t1 B4;obtain ⟨cp,hpr,-,-⟩:=h1.bump hi fa;obtain ⟨p,hp⟩:=Int.eq_ofNat_of_zero_le hpr.1;have hb1:b<w1.heap.size:=h1.ztF hi fa;have hbw:b<w.heap.size:=h.ztF hi fa;have hnb:w.heap.size≠b:=Y1;have Tv:b≠w.heap.size:=Y1;have ht0:G.tb id<w.heap.size:=by
  obtain ⟨hm,he⟩:=Za hr;obtain ⟨lv,ho,-⟩:=(h.runs.each r hm).obj;rw[←he];exact zo ho
 have hnt:w.heap.size≠G.tb id:=Y1;have Tz:G.tb id≠w.heap.size:=Y1;have k0:w1.cell? ⟨G.K,3,O⟩=some G.pv:=h1.Vb fun _ _ hc=>hc.code;obtain ⟨g,c,hlv,hc,-,hg⟩:=h1.fix.code.zbU h1.fok.code.1;have hlen:=h1.fok.code;rw[hlv] at k0;rw[hp] at cp hx;have j4:Hid (G.pv=Sl (V ⟨g,0,O⟩) F.code.length c):=Y0 hlv;rw[hlv] at HS;have HS:=Y0 HS;have oG:(0:Int)≤(p:Int)∧(p:Int)≤300000:=Y1;have rM:(1:Int)≤(F.code.length:Int)∧(F.code.length:Int)≤2048:=Y1;have H1:=Y0 h1;have fq:=Y0 t1;have iO:=Y0 B4;have iq:=h1.klt;have dK:=Y0 hr2;have HI:=Y0 hi;have NU:Hid (∀W o,zi F W o G M n→W.cell? ⟨G.tb id,0,O⟩=V (E J id)):=Y0 fun W o q=>(q.ZB hr).1;exact Q20):zP:=h
theorem J21 (h:zP:=by
 have hb:=HB.out nq;have h1:=H.out.below hb;have HT:=Y0 (zU (ts:=fun t=>t≠ .other) (t:= .other) (own:=own) hb);have BO:Hid (ext own w.heap.size .other w.heap.size= .other):=Y0 (Zo (Or.inr (Nat.le_refl _)));have BZ:Hid (((w.alloc (Ce #[E Z xo,E Z k,E Z kb,E Z xc,E J xv,E Z xm,E Z xw] 111)).drewN nq).heap[w.heap.size]?=V (Ce #[E Z xo,E Z k,E Z kb,E Z xc,E J xv,E Z xm,E Z xw] 111 (0,0))):=HZ;generalize (w.alloc (Ce #[E Z xo,E Z k,E Z kb,E Z xc,E J xv,E Z xm,E Z xw] 111)).drewN nq=w1 at*;generalize w.heap.size=bx at*;generalize ext own bx .other=aC at*;clear hb;exact Q21):zP:=h
theorem J22 (h:zP:=by
 rw[←hS,←qN];clear hS qN aL;obtain ⟨s0,s1,s2,s5⟩:=H.cell;go_upto_region 20 with (first|(go_at_call 133;refine (dR.out _).mono ?_;rintro e w' ⟨rfl,rfl⟩) |(at_builtin;refine JD rfl (.tmp 30) (.tmp 31) rfl H Y2 rfl rfl ?_;clear H;intro A0 c0 wb0 H))
 obtain ⟨s0,s1,s2,s5⟩:=H.cell;exact Q22):zP:=h
theorem J23 (h:zP:=by
 have hb5:Below W.heap.size W W4:=((Below.refl _ W).drew).trans hb4;have hR2:=yR.out.below hb5;rw[dW.out] at hR2;have hxs:0≤yh∧yh≤1000000000:=by
  have h1:(⟨yd,yw,yh⟩:zC)∈lr.set k ⟨td,tw,th⟩:=by
   rw[HY.out,←Zi (v:=lr) (i:=k) (j:=c1) Y1 ⟨td,tw,th⟩];exact at_mem Y61
  exact HS.out _ (H6.out.mem_iff.1 h1)
 have aI:=Y0 (Kt hR2 k ⟨yd,yw,yh⟩ Y16 (by have:=HL.out;have:=H1.out;omega) (by have:=HN.out;have:=HI.out;have:=HL.out;have:=H2.out;have:=og.out;omega) hxs);unfold bP at aI;dsimp only at aI;rw[←dW.out] at aI;have cO:=Y0 (fun W2 hRaw hK=>KR.step (w1:=w.alloc (Ce #[E J td,E J tw,E Z th] 366)) (wr:=wr) (w2:=W2) (k:=k) (c:=c1) (rb:=rb) (last:=last) (N:=N+i0) HA.out Y97 Y1 (by rw[nU.out];unfold par;omega) H1.out H2.out H4.out H6.out H7.out H8.out (by rw[←HY.out];exact mO.out) lJ.out hRaw (Keeps.trans (yN.out.trans (Keeps.zO (X:=Of hb mb (Sl (V ⟨g,0,O⟩) n cap)) hb5) fun _ hx=>Or.inl hx) hK fun _ hx=>Or.inl hx));rw[←HY.out] at cO;clear hR2 hxs hb4 hb5;go_wp2_with fail;refine aI.out.mono ?_;rintro e w3 ⟨rfl,pF,hK3⟩;go_wp2;go_roundw;case rel=>exact ⟨c1,by omega,by go_num,Y0 (cO.out w3 pF hK3)⟩
 case measure=>simp[intOf];omega):zP:=h
theorem J24 (h:zP:=by
 obtain ⟨k,hk⟩:=Int.eq_ofNat_of_zero_le ha.1;have hk2:k<32:=Y1;have dL:(0:Int)≤(k:Int)∧(k:Int)<32:=Y1;obtain ⟨kb,hkb⟩:=Int.eq_ofNat_of_zero_le hb.1;have hkb2:kb<32:=Y1;have SN:(0:Int)≤(kb:Int)∧(kb:Int)<32:=Y1;obtain ⟨MQ,ua,fa1,Dy⟩:=h.reg hi fa k hk2;obtain ⟨rb1,ub,fb1,Sz⟩:=h.reg hi fa kb hkb2;obtain ⟨xo,xa,xb,xc,xv,xm,xw⟩:=x;simp only at ho hk hkb ⊢;subst hk hkb;have e43:=ZH ho 43;have e44:=ZH ho 44;have e45:=ZH ho 45;have e46:=ZH ho 46;simp only[Int.reduceEq,decide_true,decide_false] at e43 e44 e45 e46;clear ho;unfold zS;have hB: ∀q,Below w.heap.size w ((w.alloc (Ce #[E Z xo,E Z k,E Z kb,E Z xc,E J xv,E Z xm,E Z xw] 111)).drewN q):=fun q=>KD ((Below.refl _ _).alloc (Nat.le_refl _) _) q
 have hz:=heap_alloc_new w (.cells #[E Z xo,E Z k,E Z kb,E Z xc,E J xv,E Z xm,E Z xw] 111);have H:=Y0 h;have HI:=Y0 hi;have iD:=Y0 fa;have HB:=Y0 hB;have HZ:=Y0 hz;have NZ:=Y0 ua;have Iw:=Y0 ub;obtain ⟨k7,k8,k9,kr,kq,kt,ko,kh⟩:=h.Vz;have hK:=h.klt;clear h hi fa hB hz ua ha ub hb;generalize hra:rg (zA M i t) k=va at*;clear hra;generalize hrb:rg (zA M i t) kb=vb at*;have ug:=Y0 hrb;clear hrb;exact Q24):zP:=h
theorem J25 (h:zP:=by
 have HR:=Y0 hr;clear hR hX hx hr hs;go_enter Tryz.func141,Tryz.ntmps141;go_wp2_with fail;refine aX.out.mono ?_;rintro e w' ⟨m,rfl,hm,rfl⟩;obtain rfl:=hm r HR.out;clear hm;rw[HR.out];simp only[Option.isSome_some];go_wp2;go_ret;exact aD.out):zP:=h
theorem J26 (h:zP:=by
 obtain ⟨xo,xa,xb,xc,xv,xm,xw⟩:=x;unfold boxed at H;have hz:=heap_alloc_new w (.cells (zS ⟨xo,xa,xb,xc,xv,xm,xw⟩) 111);unfold zS at*;simp only at ho;generalize hw1:w.alloc (Ce #[E Z xo,E Z xa,E Z xb,E Z xc,E J xv,E Z xm,E Z xw] 111)=w1 at*;have BZ:=Y0 hz;have HH:=Y0 H;clear H hz;generalize hbx:w.heap.size=bx at*;have z0:=ze BZ.out 0;have z1:=ze BZ.out 1;have z2:=ze BZ.out 2;have z3:=ze BZ.out 3;have z4:=ze BZ.out 4;have z5:=ze BZ.out 5;have z6:=ze BZ.out 6;exact Q26):zP:=h
theorem J27 (h:zP:=by
 go_enter Tryz.func141,Tryz.ntmps141;go_wp2_with fail;refine aX.out.mono ?_;rintro e w' ⟨m,rfl,hm,rfl⟩;exact Q27):zP:=h
theorem J28 (h:zP:=by
 go_enter Tryz.func131,Tryz.ntmps131;go_wp2;go_ret2;exact zrS _ HR.out):zP:=h
theorem J29 (h:zP:=by
 go_wp2_with fail;refine Ip.out.mono ?_;rintro e w1 ⟨rfl,hp⟩;have HP:=Y0 hp;obtain ⟨q0,q1,q2,q3,q4,q5,q6⟩:=FP.out w1;clear hp;go_wp2_with fail;rw[zc4];have HC:=Y0 (HH.out w1 HP.out);generalize hbw:Kn.boxed w1 ⟨xo,xa,xb,xc,xv,xm,xw⟩=wb1 at*;obtain ⟨bx,hbx⟩: ∃bx,bx=w1.heap.size:=⟨_,rfl⟩;rw[←hbx] at q0 q1 q2 q3 q4 q5 q6 ⊢;have EF:=Y0 hbx;clear hbx hbw;exact Q29):zP:=h
theorem J30 (h:zP:=by
 obtain ⟨tb,fb,aM,h9,t9⟩:=HK.out;obtain ⟨ov,c20,f20,eO,⟨Ao,co,rfl⟩,h10,nH,t10⟩:=h9.done;have HF:=Y0 (zsL (Nat.le_refl (n+8)) (fun b q=>(eO b q).1) t9 h10 nH t10);clear h9 t9 eO h10 nH t10 HK;go_wp2_with fail;go_ret;exact HF.out):zP:=h
theorem J31 (h:zP:=by
 have f6:=zh1;have f7:=ztc;have mK:=zfs;have mE:=zfY;have mI:=Jm;have k27:=zr5;have k25:=zrU;have e27:=zrr;have i25:=zcg;have n8:=zpL ⟨w.heap.size,0,O⟩ t ((w.alloc (Ce #[Y (some t)] 96)).alloc (Ce #[Y (V ⟨4,96,O⟩),Y (V ⟨w.heap.size,0,O⟩),E J 150] 179)) Y7;have hlt:0<w.heap.size:=by
  rcases Nat.eq_zero_or_pos w.heap.size with h0|h
  ·simp[World.cell?,h0] at hg
  ·exact h
 have hg2:((w.alloc (Ce #[Y (some t)] 96)).alloc (Ce #[Y (V ⟨4,96,O⟩),Y (V ⟨w.heap.size,0,O⟩),E J 150] 179)).cell? ⟨0,0,O⟩=V (.iface 267 (.agg #[Y (V ⟨4,30,O⟩)])):=by
  rw[World.cell?_alloc_lt _ _ ⟨0,0,O⟩ Y7,World.cell?_alloc_lt _ _ ⟨0,0,O⟩ hlt];exact hg
 exact Q31):zP:=h
theorem J32 (h:zP:=by
 go_wp2_with fail;go_ret;exact ⟨rfl,(Below.refl _ _).alloc (Nat.le_refl _) _⟩):zP:=h
theorem J33 (h:zP:=by
 go_enter Tryz.func181,Tryz.ntmps181;go_wp2_with fail;try rw[←hw1]
 clear hw1;generalize w.heap.size=bx at*;go_still_tail 8,Y4;change wpList _ _ _ _ _ w1.drew;go_wp2_with fail;refine ng.out.mono ?_;rintro e w2 ⟨rfl,vQ,h2,t2⟩;have B2:=zX.move (w:=w1.drew) aL.out t2;have H2:=Y0 h2;have dO:=Y0 ((fq.out.trans (Zv w1 aC)).trans t2);have aP:=Y0 B2;have y0:w2.cell? ⟨bx,0,O⟩=V (E J a0):=B2.cells.2 0;have y1:w2.cell? ⟨bx,1,O⟩=V (E J a1):=B2.cells.2 1;have y2:w2.cell? ⟨bx,2,O⟩=V (E J a2):=B2.cells.2 2;have y3:w2.cell? ⟨bx,3,O⟩=V (E J a3):=B2.cells.2 3;clear h2 t2 B2 x0 x1 x2 x3 ct H1 fq aL ng r0 r1 r2 r3;go_wp2_with fail;refine (Il.out _ _ H2.out).mono ?_;rintro e w3 ⟨rfl,dw,h3,t3⟩;have H3:=Y0 h3;have dG:=Y0 (dO.out.trans t3);have aY:=Y0 (aP.out.move t3);clear h3 t3 y0 y1 y2 y3 H2 dO aP Il;exact Q33):zP:=h
theorem J34 (h:zP:=by
 obtain ⟨u0,-,u1,-⟩:=h1.reg HI.out iD.out k hk2;obtain ⟨vQ,h2,t2⟩:=h1.KT HI.out iD.out hk2 VH;have HT:=Y0 (HT.out.trans t2);have mQ:Hid (VZ G (zG M i t k 0) i t b o):=Y0 (VZ.Zu iD.out H.out.runs.nod _);obtain ⟨x1,x2,x3⟩:=t2.other BO.out (zo BZ.out);replace BZ:=Y0 (x1.trans BZ.out);replace BO:=Y0 x2;exact Q34):zP:=h
theorem J35 (h:zP:=by
 (repeat first|exact Zd.refl H.out (Nat.le_succ n) |refine Zd.alloc ?_ _|refine Zd.drewN ?_ _|refine Zd.drew ?_|refine Zd.pc ?_ hne Y1)):zP:=h
theorem J36 (h:zP:=by
 subst hq;refine (qG.out _ aC (H3.out.drewN q)).mono fun e w' ⟨a,hk⟩=>⟨a,hk.drewN,?_⟩
 obtain ⟨aV,h5,t5⟩:=hk;have:=h5.Vb (i:=3) (v:=G.pv) fun _ _ hc=>hc.code;rw[j4.out] at this;exact ⟨this,(h5.ZB dK.out).1,(zX.move (w:=W.drewN q) D4.out t5).cells.2 0⟩):zP:=h
theorem J37 (h:zP:=by
 unfold kQ at h;split at h;case isFalse=>cases h
 rename_i hh;obtain ⟨h0,hd,hl,hv⟩:=hh;have hn0:0<s.size:=by
  rcases Nat.eq_zero_or_pos s.size with h|h
  ·exact absurd (List.eq_nil_of_length_eq_zero Y17) h0
  ·exact h
 have Tm:s.size≤20:=by simpa using hl
 have hdig: ∀k (hk:k<s.size),48≤(s[k].toNat:Int)∧(s[k].toNat:Int)≤57:=by
  intro k hk;have:=List.all_eq_true.1 hd s[k] (by
   have:s[k]=s.data.toList[k]' Y49:=rfl
   rw[this];exact List.getElem_mem _)
  simp[isDigit] at this;omega
 have hlt: ∀k,vZ (s.data.toList.take k)<18446744073709551616:=fun k=>Nat.lt_of_le_of_lt (zqN _ k) hv;have HV:=Y0 (Option.some.inj h);have FX:=Y0 hdig;have oP:=Y0 hlt;have Tq:(0:Int)<(s.size:Int):=Y1;have dV:(s.size:Int)≤20:=Y1;have hne:((s.size:Int)==0)=false:=beq_eq_false_iff_ne.2 Y1;exact Q37):zP:=h
theorem J38 (h:zP:=by
 obtain ⟨p,a',m'⟩:=r;have hp:=oP.out p a' m' rfl;have hcp:IntKind.u64.wrap (p:Int)=(p:Int):=Y22;have Qz:Hid (Zm (p:Int)):=Y0 (by unfold Zm;omega);clear hp oP;go_wp2_with fail;refine HG.out.mono ?_;rintro e w3 ⟨rfl,dw,h3,t3⟩;rw[zhC] at h3;have HT:=Y0 (HT.out.trans t3);have rU:VZ G (zG { M with alc:=a',mem:=m'} i t k 0) i t b o:=VZ.Zu (M:={ M with alc:=a',mem:=m'}) Y38 H.out.runs.nod _;have iT:=h3.KT HI.out rU hk2 Qz.out;have e9:zG (zG { M with alc:=a',mem:=m'} i t k 0) i t k p=zG { M with alc:=a',mem:=m'} i t k p:=by
  exact Gi (M:={ M with alc:=a',mem:=m'}) (by exact H.out.runs.nod) (H.out.bV HI.out) Y38 k 0 p
 rw[e9] at iT;have iT:=Y0 iT;obtain ⟨u0,-,u1,-⟩:=h3.reg HI.out rU k hk2;exact Q38):zP:=h
theorem J39 (h:zP:=by
 have E0:=Y0 h0.code;have N1:Hid (∀j u,([E Z z.op,E Z z.a,E Z z.b,E Z z.c,E J z.v,E Z z.m,E Z z.w]:List Value)[j]?=some u→(((wc.alloc (Ce #[E Z z.op,E Z z.a,E Z z.b,E Z z.c,E J z.v,E Z z.m,E Z z.w] 111)).drew)).cell? ((⟨wc.heap.size,0,O⟩:Addr).add j)=some u):=Y0 (by
  intro j u hu
  rw[Addr.add_lit,Nat.zero_add]
  exact (World.cell?_alloc_at _ _ _ _ rfl).trans Y23)
 have O1:Hid (∀u∈([E Z z.op,E Z z.a,E Z z.b,E Z z.c,E J z.v,E Z z.m,E Z z.w]:List Value),u.oneCell'=true):=Y0 (by
  intro u hu
  simp at hu
  rcases hu with rfl|rfl|rfl|rfl|rfl|rfl|rfl<;>rfl)
 exact Q39):zP:=h
theorem J40 (h:zP:=by
 obtain ⟨a1,a2⟩:=(zd7 _).1 h3;have b1:decide (((s[0]'qK).toNat:Int)<97)=false:=decide_eq_false Y1;have b2:decide ((122:Int)<((s[0]'qK).toNat:Int))=false:=decide_eq_false Y1;have hno: ∀k (hk:k<s.size),isName s[k]=false→ZC s.data.toList=false:=by
  intro k hk h;unfold ZC;have:s.data.toList.all isName=false:=by
   rw[List.all_eq_false];exact ⟨s[k],ze5 s k hk,by simp[h]⟩
  rw[this];simp
 have hyes:(∀k (hk:k<s.size),isName s[k]=true)→ZC s.data.toList=(Zr s.data.toList).isNone:=by
  intro h;unfold ZC;rw[zqr h,Bt s qK,decide_eq_true Y21];simp[h3]
 have j6:=Y0 hno;have rE:=Y0 hyes;clear hno hyes h3 a1 a2;exact Q40):zP:=h
theorem J41 (h:zP:=by
 have hb:Below w.heap.size w (w.alloc (Ce (KW e) 74)):=(Below.refl _ _).alloc (Nat.le_refl _) _;have hz:=heap_alloc_new w (.cells (KW e) 74);have HT:=Y0 (HT0 _ (h.below hb));obtain ⟨kd,p,k,t0,num,a0,a1,a2,a3,v,cd⟩:=e;unfold KW at*;dsimp only at*;go_enter Tryz.func26,Tryz.ntmps26;go_upto_region 1 with fail;generalize w.alloc _=W at*;have h1:=h.below hb;obtain ⟨v0,v1,v2,v3,v4,v5,v6,v7,v8,v9,v10⟩:=kM (e:=⟨kd,p,k,t0,num,a0,a1,a2,a3,v,cd⟩) hz;have m8:=h1.cells.2.2.2.2.2.2.2.1;have HB:=Y0 hb;clear h h1 hb hz HT0;go_wp2_with fail;refine HT.out.mono ?_;exact Q41):zP:=h
theorem J42 (h:zP:=by
 go_wp2_with fail;refine HA.out.mono ?_;rintro e w3 ⟨rfl,oz,hk3⟩;have h3:=H2.out.keeps hk3 fun b hb=>iZ.out b hb;obtain ⟨-,-,-,-,-,-,-,-,-,-,-,-,-,-,Ri,-,df⟩:=ZI oz;have f14:=df 14;have oD:=zox oz;have hk4:=hk3.setCell (p:=⟨C,14,O⟩) rfl (E J 0);have h4:=h3.keeps ((Keeps.refl (fun b=>b=C) w3).setCell (p:=⟨C,14,O⟩) rfl (E J 0)) fun b hb=>iZ.out b hb;have H4:=Y0 h4;have FU:=Y0 oD;have EU:=Y0 hk4;clear oz hk3 h3 oD hk4 h4 df HA;go_upto_region 6 with fail;generalize (World.setCell w3 _ _)=w4 at*;clear Ri f14;obtain ⟨-,c1,-,-,-,-,-,-,-,-,-,-,-,-,-,Rj,df⟩:=ZI FU.out;have f15:=df 15;exact Q42):zP:=h
theorem J43 (h:zP:=by
 obtain ⟨xo,xa,xb,xc,xv,xm,xw⟩:=x;have FP:=Y0 fun w1=>zhV w1 ⟨xo,xa,xb,xc,xv,xm,xw⟩;unfold zS JN at*;simp only at FP;have HH:=Y0 H1;have Ip:=Y0 HS;exact Q43):zP:=h
theorem J44 (h:zP:=by
 have iF: ¬Of hb mb (Sl (V ⟨g,0,O⟩) n cap) w.heap.size:=fun ho=>absurd (HR.out.of_lt ho) Y1;have b0:wr.cell? ⟨w.heap.size,0,O⟩=V (E J td):=(r8.cell (p:=⟨w.heap.size,0,O⟩) Y7 iF).trans (World.cell?_alloc_at _ _ _ _ rfl);have b1:wr.cell? ⟨w.heap.size,1,O⟩=V (E J tw):=(r8.cell (p:=⟨w.heap.size,1,O⟩) Y7 iF).trans (World.cell?_alloc_at _ _ _ _ rfl);have b2:wr.cell? ⟨w.heap.size,2,O⟩=V (E Z th):=(r8.cell (p:=⟨w.heap.size,2,O⟩) Y7 iF).trans (World.cell?_alloc_at _ _ _ _ rfl);have hbl:w.heap.size<wr.heap.size:=by have:=r8.size;simp at this;omega
 exact Q44):zP:=h
theorem J45 (h:zP:=by
 go_enter Tryz.func230,Tryz.ntmps230;go_wp2_with fail;go_quiet (fail);exact J66):zP:=h
theorem J46 (h:zP:=by
 obtain ⟨s0,s1,s2,s5⟩:=H.cell;exact J53):zP:=h
theorem J47 (h:zP:=by
 generalize F.code.length=L at*;simp only at*;go_enter Tryz.func119,Tryz.ntmps119;go_wp2_with fail;try rw[←hw1]
 clear hw1;go_quiet (fail);go_wp2_with fail;obtain ⟨W,hW⟩: ∃W,W=w1.drewN nq:=⟨_,rfl⟩;have dG:Hid (Touch (fun t=>t≠ .other) w W own aC):=Y0 Y45;have H3:Hid (zi F W aC G M n):=Y0 Y78;have D4:Hid (zX W aC w.heap.size #[E Z xo,E Z xa,E Z xb,E Z xc,E J xv,E Z xm,E Z xw] 111):=Y0 Y75;rw[←hW];clear hW k0 cp Ae uz hg hb1;exact Q47):zP:=h
theorem J48 (h:zP:=by
 go_enter Tryz.func226,Tryz.ntmps226;go_wp2_with fail;go_quiet (fail);go_wp2_with fail;go_quiet (fail);go_wp2_with fail;go_end0;try rw[if_neg HC.out]
 exact ⟨rfl,KO.below H.out (HB.out _)⟩):zP:=h
theorem J49 (h:zP:=by
 obtain ⟨ge,co,rfl,hge,hcell⟩:=zuu ho;obtain ⟨kd,p,kw,et,num,a0,a1,a2,a3,v,cd⟩:=e;unfold zh6 at hcell;dsimp only at*;have v0:=hcell 0 _ rfl;have v1:=hcell 1 _ rfl;have v2:=hcell 2 _ rfl;have v3:=hcell 3 _ rfl;have v4:=hcell 4 _ rfl;have v5:=hcell 5 _ rfl;have v6:=hcell 6 _ rfl;have v7:=hcell 7 _ rfl;have v8:=hcell 8 _ rfl;have v9:=hcell 9 _ rfl;have v10:=hcell 10 _ rfl;have hb1:Below w.heap.size w (w.alloc (Ce (KW ⟨kd,p,kw,et,num,a0,a1,a2,a3,v,cd⟩) 74)).drew:=Ki ((Below.refl _ _).alloc (Nat.le_refl _) _) 1;exact Q49):zP:=h
theorem J50 (h:zP:=by
 obtain ⟨k,hk⟩:=Int.eq_ofNat_of_zero_le ha.1;have hk2:k<32:=Y1;have dL:(0:Int)≤(k:Int)∧(k:Int)<32:=Y1;exact Q50):zP:=h
theorem J51 (h:zP:=by
 have DC:48≤c:=Y1;have DF:c≤57:=Y1;have aD:Hid (a*10+(c - 48)=(vZ (s.data.toList.take (k+1)):Int)):=Y0 Y80;clear hb1 ha d1 d2;go_wp2_with fail;rw[←hc];clear hc;refine HD.out.mono ?_;rintro e w' ⟨rfl,rfl⟩;go_wp2;go_round;case rel=>first|exact ⟨k+1,by omega,by go_num,by rw[←aD.out]⟩ |((repeat apply Exists.intro);exact ⟨⟨k+1,by omega,by go_num,by rw[←aD.out]⟩,rfl⟩)
 case measure=>simp[intOf];omega):zP:=h
theorem J52 (h:zP:=by
 have aH:(k:Int)<(s.size:Int):=Y1;have DZ:(k:Int)<20:=Y1;obtain ⟨d1,d2⟩:=FX.out k hlt;have hb1:=oP.out (k+1);rw[BF s k hlt,Bj] at hb1;have CF:Hid (vZ (s.data.toList.take (k+1))=vZ (s.data.toList.take k)*10+(s[k].toNat - 48)):=Y0 Y53;obtain ⟨a,ha⟩: ∃a:Int,a=(vZ (s.data.toList.take k):Int):=⟨_,rfl⟩;obtain ⟨c,hc⟩: ∃c:Int,c=(s[k].toNat:Int):=⟨_,rfl⟩;have ha0:0≤a:=Y1;have hab:a*10+(c - 48)<18446744073709551616:=Y1;have HA:=Y0 ha;have HC:=Y0 hc;rw[←ha];exact Q52):zP:=h
theorem J53 (h:zP:=by
 go_wp2_with (go_at_call 133;refine (dR.out _).mono ?_;rintro e w' ⟨rfl,rfl⟩);go_ret;exact ⟨_,rfl,H.own,H.bd⟩):zP:=h
theorem J54 (h:zP:=by
 go_wp2_with fail;refine aI.out.mono ?_;rintro e w3 ⟨rfl,pF,hK3⟩;go_wp2;go_end0;exact iP.out w3 pF hK3):zP:=h
theorem J55 (h:zP:=by
 have aX:=Y0 (vB s w Y1);obtain ⟨o0,o1,o2,o3,o4,o5,o6,of⟩:=hx.cell;have hlt:=hx.lt;exact Q55):zP:=h
theorem J56 (h:zP:=by
 go_enter Tryz.func60,Tryz.ntmps60;go_wp2_with fail;go_quiet (fail);go_wp2_with fail;go_quiet (fail);go_wp2_with fail;obtain ⟨h1,t1⟩:=HP.out _;generalize World.setCell _ _ _=w1 at*;have HL:=Y0 (HC.out w1 h1 t1);clear h1 t1;refine HL.out.mono ?_;rintro e w3 ⟨rfl,hk⟩;have HK:=Y0 hk;clear hk;go_wp2_with fail;go_end0;exact ⟨rfl,HK.out⟩):zP:=h
theorem J57 (h:zP:=by
 go_upto_region 24 with (first|(go_at_call 133;refine (dR.out _).mono ?_;rintro e w' ⟨rfl,rfl⟩) |(at_builtin;refine JD rfl (.tmp 40) (.tmp 41) rfl H Y2 rfl rfl ?_;clear H;intro A1 c1 wb1 H))
 obtain ⟨s0,s1,s2,s5⟩:=H.cell;exact Q57):zP:=h
theorem J58 (h:zP:=by
 ·split at hl
  ·cases hl
  ·dsimp only at hl;split at hl
   ·cases hl
   ·split at hl
    ·cases hl
    ·split at hl
     ·obtain ⟨z,_,e⟩:=Option.map_eq_some_iff.1 hl;cases e
     ·cases hl):zP:=h
theorem J59 (h:zP:=by
 clear hk1;go_wp2;go_roundw;case rel=>exact ⟨i+1,by omega,by go_num,(HR.out.alloc _).congr (fun j hj=>by rw[zq2 HA.out]),hb.alloc Y1 _,zmm HG.out HA.out⟩
 case measure=>simp[intOf];omega):zP:=h
theorem J60 (h:zP:=by
 have OH:=zov FU.out;have hk5:=EU.out.setCell (p:=⟨C,15,O⟩) rfl (.bool true);have h5:=H4.out.keeps ((Keeps.refl (fun b=>b=C) w4).setCell (p:=⟨C,15,O⟩) rfl (.bool true)) fun b hb=>iZ.out b hb;have H5:=Y0 h5;have AO:=Y0 OH;have tJ:=Y0 hk5;clear df OH hk5 h5;go_wp2_with fail;refine HS.out.mono ?_;rintro e w9 ⟨rfl,sS⟩;subst sS;go_upto_region 7 with fail;generalize (World.setCell w9 _ _)=w5 at*;clear c1 Rj f15 HS H4 FU EU;exact Q60):zP:=h
theorem J61 (h:zP:=by
 rw[zx8] at hput;have dZ:=Y0 hput;clear hput;go_wp2_with fail;go_roundw;case rel=>exact ⟨2,by omega,by go_num,Y0 ⟨v0,_,v2,v3,qY.out.s1 aZ.out,dZ.out⟩⟩
 case measure=>simp[intOf]):zP:=h
theorem J62 (h:zP:=by
 rw[zxC] at hput;have dZ:=Y0 hput;clear hput;go_wp2_with fail;go_roundw;case rel=>exact ⟨1,by omega,by go_num,Y0 ⟨_,v1,v2,v3,qY.out.s0 aZ.out,dZ.out⟩⟩
 case measure=>simp[intOf]):zP:=h
theorem J63 (h:zP:=by
 rw[zyu] at hput;have dZ:=Y0 hput;clear hput;go_wp2_with fail;go_roundw;case rel=>exact ⟨3,by omega,by go_num,Y0 ⟨v0,v1,_,v3,qY.out.s2 aZ.out,dZ.out⟩⟩
 case measure=>simp[intOf]):zP:=h
theorem J64 (h:zP:=by
 rw[zwg] at hput;have dZ:=Y0 hput;clear hput;go_wp2_with fail;go_roundw;case rel=>exact ⟨4,by omega,by go_num,Y0 ⟨v0,v1,v2,_,qY.out.s3 aZ.out,dZ.out⟩⟩
 case measure=>simp[intOf]):zP:=h
theorem J65 (h:zP:=by
 go_enter Tryz.func226,Tryz.ntmps226;go_wp2_with fail;go_quiet (fail);exact Q65):zP:=h
theorem J66 (h:zP:=by
 go_wp2_with fail;go_ret;exact ⟨rfl,FIN.out _ ⟨_,rfl⟩⟩):zP:=h
theorem J67 (h:zP:=by
 have hnR: ∀k,v'.ownBlock=some k→k≠R:=fun k hk=>zH (zI hr hk) ((zbi hR2).trans h.vO) Y2;exact Q67):zP:=h
theorem J68 (h:zP:=by
 go_enter Tryz.func69,Tryz.ntmps69;go_wp2;go_ret;exact ⟨rfl,0,rfl⟩):zP:=h
theorem J69 (h:zP:=by
 rcases ho with rfl|rfl|rfl|rfl
 all_goals
  go_enter Tryz.func176,Tryz.ntmps176
  go_wp2_with fail
  try rw[hw1]
  try clear hw1 hbx
  go_wp2_with fail
  refine HH.out.mono ?_
  rintro e w2 ⟨rfl,hq⟩
  have HQ:=Y0 hq
  clear hq
  go_wp2_with fail
  go_ret
  exact ⟨rfl,HQ.out⟩):zP:=h
theorem J70 (h:zP:=by
 go_wp2_with fail;refine HG.out.mono ?_;rintro e w3 ⟨⟨ev,rfl,hev⟩,hbb⟩;have h3:=H2.out.below hbb;have t3:=zU (ts:=fun t=>t≠ .other) (t:= .other) (own:=vQ) hbb;have HT:=Y0 (HT.out.trans t3);have iT:=h3.KT HI.out mQ.out hk2 VH;rw[show zG (zG M i t k 0) i t k 0=zG M i t k 0 from Qy.out 0] at iT;have iT:=Y0 iT;obtain ⟨u0,-,u1,-⟩:=h3.reg HI.out mQ.out k hk2;exact Q70):zP:=h
theorem J71 (h:zP:=by
 go_enter Tryz.func205,Tryz.ntmps205;go_wp2;go_ret2;exact jC _ HR.out):zP:=h
theorem J72 (h:zP:=by
 rcases h.2 with ⟨rfl,_⟩ |⟨g,cap,cur,rfl,_,hg,_⟩
 ·exact .inl rfl
 ·right;rcases h'.2 with ⟨rfl,_⟩ |⟨g',cap',cur',rfl,_,hg',_⟩
  ·simp[Value.ownBlock]
  ·intro he;have hgg:g=g':=by simpa[Value.ownBlock] using he
   subst hgg;rw[hg] at hg';injection hg' with hg'
   injection hg' with _ ht
   exact hne ht):zP:=h
theorem J73 (h:zP:=by
 have hk:=c64 c hc;have e0:0≤c%64:=Y1;have e1:c%64<64:=Y1;generalize hm:c%64=k at*;have HM:=Y0 hm;clear hm;go_enter Tryz.func237,Tryz.ntmps237;go_wp2_with fail;go_ret;have h:=HM.out;subst h;exact ⟨by first|(rw[IntKind.wrap_u64];rfl) |rfl,(Below.refl _ _).alloc (Nat.le_refl _) _⟩):zP:=h
theorem J74 (h:zP:=by
 rw[H1.out];clear hm hx1 hK1 hc4;simp only[Option.isSome_some];go_wp2;go_ret;exact HF.out):zP:=h
theorem J75 (h:zP:=by
 go_wp2;go_ret;exact ⟨⟨_,rfl,_,_,rfl⟩,(Below.refl _ _).alloc (Nat.le_refl _) _⟩):zP:=h
theorem J76 (h:zP:=by
 clear d1 d2;go_wp2;go_round;case rel=>exact ⟨k+1,by omega,by go_num,cu⟩
 case measure=>simp[intOf];omega):zP:=h
theorem J77 (h:zP:=by
 go_wp2_with fail;all_goals
  refine aG.out.mono ?_
  rintro e w3 ⟨rfl,rfl⟩
  go_wp2
  go_ret
  exact HF.out):zP:=h
theorem J78 (h:zP:=by
 by_cases h1:x.op≤11
 ·exact (zh2 hf.fr hf.ne hc hg hl hmay hv hn hx ⟨hO.1,h1⟩ M.mem).mono fin
 ·by_cases h2:x.op≤16
  ·exact (zhD hf.fr hf.ne hc hg hl hmay hv hn hx ⟨by omega,h2⟩ M.mem).mono fin
  ·exact (zh7 hf.fr hf.ne hc hg hl hmay hv hn hx Y1 M.mem).mono fin):zP:=h
theorem J79 (h:zP:=by
 go_enter Tryz.func293,Tryz.ntmps293;go_wp2_with fail;all_goals
  go_ret
  exact ⟨rfl,0,rfl⟩):zP:=h
theorem J80 (h:zP:=by
 go_enter Tryz.func138,Tryz.ntmps138;go_wp2;go_ret;exact ⟨rfl,rfl⟩):zP:=h
theorem J81 (h:zP:=by
 unfold special;simp only[ho,Int.reduceEq,or_self,if_false,if_true];all_goals rfl):zP:=h
theorem J82 (h:zP:=by
 go_enter Tryz.func146,Tryz.ntmps146;go_wp2_with fail;refine H1.out.mono ?_;rintro e w1 ⟨rfl,rfl⟩;go_wp2_with fail;refine (HF.out _ _).mono ?_;rintro e w1 ⟨⟨ev,rfl,hev⟩,hb1⟩;go_wp2;go_ret2;exact ⟨⟨_,rfl,hev⟩,hb1⟩):zP:=h
theorem J83 (h:zP:=by
 go_enter Tryz.func221,Tryz.ntmps221;go_wp2_with fail;all_goals
  go_ret
  exact ⟨rfl,0,rfl⟩):zP:=h
theorem J84 (h:zP:=by
 clear o0 o1 o2 o3 o4 o5 o6 of hlt hcut hwr;obtain ⟨o0,o1,o2,o3,o4,o5,o6,of⟩:=lC.out.cell;have hlt:=lC.out.lt;refine (aG.out _ dK.out).mono ?_;rintro e w2 ⟨rfl,rfl⟩;go_wp2;go_ret;exact ⟨rfl,lC.out.znF v,dP.out.trans (zJ _ X 5 _) (fun _ h=>Or.inl h)⟩):zP:=h
theorem J85 (h:zP:=by
 go_wp2_with fail;refine (HF.out _ _ _).mono ?_;rintro e w1 ⟨⟨ev,rfl,hev⟩,hb1⟩;go_wp2;go_ret;rw[j6.out];exact ⟨⟨_,rfl,hev⟩,hb1⟩):zP:=h
theorem J86 (h:zP:=by
 go_wp2_with fail;refine (aG.out _).mono ?_;rintro e w' ⟨rfl,rfl⟩;go_wp2;go_ret;exact aD.out):zP:=h
theorem J87 (h:zP:=by
 have aX:=Y0 (kC s w Y1);have HX:=Y0 hx;have HP:=Y0 hP;have lZ:=Y0 hX;exact Q87):zP:=h
theorem J88 (h:zP:=by
 have hins:Zc F.code (p:Int)=none:=JF (Or.inr Y1);rw[hins] at hx;simp only[Option.getD_none] at hx;obtain ⟨xo,xa,xb,xc,xv,xm,xw⟩:=x;injection hx with z0 z1 z2 z3 z4 z5 z6
 have iO:Hid (zX w1 aC w.heap.size #[E Z xo,E Z xa,E Z xb,E Z xc,E J xv,E Z xm,E Z xw] 111):=Y0 Y79;exact Q88):zP:=h
theorem J89 (h:zP:=by
 go_enter Tryz.func74,Tryz.ntmps74;go_upto_region 2 with fail;rw[←HT.out];go_wp2_with fail;refine aG.out.mono ?_;rintro e w2 ⟨rfl,rfl⟩;go_wp2;go_ret;exact ⟨rfl,lC.out.znF v,zJ _ X 5 _⟩):zP:=h
theorem J90 (h:zP:=by
 dsimp only at h;split at h
 ·cases h
 ·rename_i v hv;split at h
  ·cases h
  ·exact ⟨v,hv,by omega,by omega,(Option.some.inj h).symm⟩):zP:=h
theorem J91 (h:zP:=by
 have ht:=zaS hne;rw[hll] at ht;obtain ⟨hm,rfl⟩:=Za hr;have hF:=(h.runs.each r hm).frs l (zZ r) ht;obtain ⟨bv,ho,-⟩:=hF.obj;rw[ze ho,List.getElem?_toArray,List.getElem?_append_right (by rw[zep hF.ok.len];decide),zep hF.ok.len];rfl):zP:=h
theorem J92 (h:zP:=by
 go_wp2_with fail;refine (h1.out _).mono ?_;rintro e w1 ⟨rfl,rfl⟩;go_wp2_with fail;refine (h2.out _).mono ?_;rintro e w1 ⟨rfl,rfl⟩;go_wp2_with fail;refine (h3.out m _ HR.out).mono ?_;exact J96):zP:=h
theorem J93 (h:zP:=by
 change wpList _ _ _ _ _ wb1.drew;go_wp2_with fail;refine HC.out.mono ?_;rintro e w2 ⟨rfl,hq⟩;have E9:=Y0 hq;clear hq q0 q1 q2 q3 q4 q5 q6;exact Q93):zP:=h
theorem J94 (h:zP:=by
 go_wp2_with (first|(go_at_call 133;refine (dR.out _).mono ?_;rintro e w' ⟨rfl,rfl⟩) |(at_builtin;refine JD rfl (.tmp 50) (.tmp 51) rfl H Y2 rfl rfl ?_;clear H;intro A2 c2 wb2 H));go_ret;exact ⟨_,rfl,H.own,H.bd⟩):zP:=h
theorem J95 (h:zP:=by
 obtain ⟨D,n,h1,h2,h3⟩:=h;obtain ⟨v,ps,hrun,hv⟩:=h1.look_ok zpy Tryz.underlying196 (zjN w) (plainElem_int Tryz.underlying3 Y2) (WideMaps.keyOf_string_mk Tryz.underlying9 hs);obtain ⟨c,rfl,hc,hwc⟩:=plainElem_int_inv Tryz.underlying3 hv;obtain ⟨e1,e2⟩:=h3 s.data.toList;exact Q95):zP:=h
theorem J96 (h:zP:=by
 rintro e w1 ⟨rfl,rfl⟩;go_wp2_with fail;go_ret;exact ⟨rfl,rfl⟩):zP:=h
theorem J97 (h:zP:=by
 go_enter Tryz.func100,Tryz.ntmps100;go_wp2_with fail;go_quiet (fail);go_wp2_with fail;go_ret;exact ⟨rfl,by first|exact Below.refl _ _|exact KD (Below.refl _ _) _⟩):zP:=h
theorem J98 (h:zP:=by
 have hpl:p<F.code.length:=Y1;have hins:Zc F.code (p:Int)=some F.code[p]:=by
  unfold Zc;rw[if_neg Y1,Int.toNat_natCast,List.getElem?_eq_getElem hpl]
 rw[hins] at hx;simp only[Option.getD_some] at hx;have hcc:=hc.cells hpl hx;obtain ⟨xo,xa,xb,xc,xv,xm,xw⟩:=x;obtain ⟨c0,c1,c2,c3,c4,c5,c6⟩:=hcc;exact Q98):zP:=h
theorem J99 (h:zP:=by
 go_enter Tryz.func77,Tryz.ntmps77;go_wp2_with fail;refine HW.out.mono ?_;rintro e w2 ⟨v,rfl,hr,hb⟩;rw[HN.out] at hr;exact Q99):zP:=h
theorem zyf (h:zP:=by
 simp only[show ((6:Int)=1)=False by simp,show ((6:Int)=2)=False by simp,show ((6:Int)=3)=False by simp,show ((6:Int)=4)=False by simp,show ((6:Int)=5)=False by simp,show ((6:Int)=7)=False by simp,if_false,if_true] at h;obtain ⟨r,hr,e⟩:=Option.map_eq_some_iff.1 h;injection e with e1 e2
 subst e1 e2;exact zxe):zP:=h
theorem zxz (h:zP:=by
 go_wp2_with (go_at_call 64;refine (HI.out _).mono ?_;rintro e w' ⟨rfl,rfl⟩);go_roundw;case rel=>exact ⟨i+1,by omega,by omega,by go_num,by rw[HZ.out],by first|rfl|trivial⟩
 case measure=>simp[intOf];omega):zP:=h
theorem zus (h:zP:=by
 go_enter Tryz.func30,Tryz.ntmps30;go_wp2;go_ret;exact ⟨rfl,Below.refl _ _⟩):zP:=h
theorem zuP (h:zP:=by
 go_enter Tryz.func303,Tryz.ntmps303;go_wp2;go_ret;exact ⟨rfl,HB.out _ rfl⟩):zP:=h
theorem zyM (h:zP:=by
 obtain ⟨y,l,lr,aN,h1,h2,h3,h4,h5,h6,h7⟩:=h;rw[hq,List.drop_of_length_le (Nat.le_refl _)] at h1;simp[ZA] at h1;obtain ⟨e1,e2⟩:=h1;subst e1 e2;rw[List.append_nil] at h2;subst h2;exact ⟨aN,h4,h5,h6,h7⟩):zP:=h
theorem zyh (h:zP:=by
 subst hq;refine (HS.out _ aC (H3.out.drewN q)).mono fun e w' ⟨a,hk⟩=>⟨a,hk.drewN,?_⟩
 obtain ⟨aV,h5,t5⟩:=hk;have:=h5.Vb (i:=0) (v:=G.lv) fun _ _ hc=>hc.lib;rw[j4.out] at this;exact ⟨this,h5.zcR⟩):zP:=h
theorem zuA (h:zP:=by
 go_enter Tryz.func227,Tryz.ntmps227;go_wp2_with fail;go_quiet (fail);exact zvx):zP:=h
theorem zyN (h:zP:=by
 clear x1 x2 x3 t2 h1 k7 k8 k9 kr kq kt ko kh;go_upto_region 8 with fail;generalize w1.setCell ⟨b,o+1+k,O⟩ (E J 0)=w2 at*;obtain ⟨u0,-,u1,-⟩:=h2.reg HI.out mQ.out k hk2;have ka:=h2.zka;have Qy:=Y0 (Gi H.out.runs.nod (H.out.bV HI.out) iD.out k 0);exact zyw):zP:=h
theorem zwu (h:zP:=by
 have Cu:=Y0 hpl;have HN:=Y0 hN;have HL:=Y0 hl;have HI:=Y0 hi;have HT:=Y0 ht;have og:=Y0 hn;obtain ⟨o0,d0,d1,d2⟩:=h.look hn hi;rw[←ht] at d0 d1 d2;have hlt:=h.obj.lt;have hgl:=(h.row.lt g rfl).2;have dH:(i0:Int)<(n:Int):=Y1;have hin:i0<n:=Y1;have dV:(n:Int)≤1000000:=Y1;exact zxO):zP:=h
theorem zsq (h:zP:=by
 go_wp2_with fail;go_end0;rw[HR.out];exact ⟨rfl,KO.trans HT.out iT.out⟩):zP:=h
theorem zwb (h:zP:=by
 rw[beq_iff_eq];refine (Zx _ 58).2 ?_;have h3:=ZY W0 (W0.size - 1) hl;rw[cZ] at h3;rw[List.getLast?_eq_getElem?,show w0.length - 1=W0.size - 1 by omega,h3] at hl58;exact Option.some.inj hl58):zP:=h
theorem zxL (h:zP:=by
 simp only[show ((7:Int)=1)=False by simp,show ((7:Int)=2)=False by simp,show ((7:Int)=3)=False by simp,show ((7:Int)=4)=False by simp,show ((7:Int)=5)=False by simp,if_false,if_true] at h;obtain ⟨r,hr,e⟩:=Option.map_eq_some_iff.1 h;injection e with e1 e2
 subst e1 e2;exact zws):zP:=h
theorem zul (h:zP:=by
 go_enter Tryz.func213,Tryz.ntmps213;go_wp2;go_ret;exact ⟨rfl,rfl⟩):zP:=h
theorem zyq (h:zP:=by
 have hl:Wb<w.heap.size:=by
  rcases Nat.lt_or_ge Wb w.heap.size with q|q
  ·exact q
  ·simp[World.cell?,Array.getElem?_eq_none q] at x0
 obtain ⟨xk,xw,xd⟩:=x;unfold Ke;dsimp only;go_enter Tryz.func7,Tryz.ntmps7;exact zww):zP:=h
theorem zrs (h:zP:=by
 have HQ:=Y0 hq;clear hq;go_wp2_with fail;go_end0;exact ⟨rfl,HQ.out⟩):zP:=h
theorem zwP (h:zP:=by
 have:=h.obj;exact ⟨by simp[World.cell?,this],by simp[World.cell?,this],by simp[World.cell?,this],by simp[World.cell?,this],by simp[World.cell?,this],fun o=>by simp[World.frozen?,this]⟩):zP:=h
theorem zwj (h:zP:=by
 clear oh;obtain ⟨aN,h4,h5,h6,h7⟩:=hcut.out;obtain ⟨iw,hiw,qO,hsw,hbw⟩:=info_parts zru;obtain ⟨Ac,cc,rfl⟩:=zn h4.code;obtain ⟨r0,r1,r2,r3,r4,rf⟩:=h4.cell;obtain ⟨x0,x1,x2,x3,x4,x5,x6,xf⟩:=h5.cell;have hRl:=h4.lt;have LG:=h5.lt;exact zwz):zP:=h
theorem zt4 (h:zP:=by
 refine (aG.out _).mono ?_;rintro e w2 ⟨rfl,rfl⟩;go_wp2;go_ret;exact ⟨rfl,HF.out,HK.out⟩):zP:=h
theorem zvi (h:zP:=by
 rcases h.2 with ⟨rfl,rfl⟩ |⟨g,cap,cur,rfl,_⟩
 ·exact ⟨_,_,rfl⟩
 ·exact ⟨_,_,rfl⟩):zP:=h
theorem zwv (h:zP:=by
 ·obtain rfl:k=s.size:=Y1;have aD:Hid ((vZ (s.data.toList.take s.size):Int)=v):=Y0 Y32;go_wp2;go_ret2;first|exact ⟨rfl,rfl⟩ |exact ⟨by rw[←aD.out];rfl,rfl⟩):zP:=h
theorem zvZ (h:zP:=by
 rw[List.getD_eq_getElem?_getD,List.getD_eq_getElem?_getD,List.getElem?_set];by_cases e:p=q
 ·subst e;rw[if_pos rfl,if_pos rfl,if_pos h];rfl
 ·rw[if_neg e,if_neg (Ne.symm e)]):zP:=h
theorem zwD (h:zP:=by
 intro i hi;obtain ⟨g,c',e,h1,h2,h3,h4,_⟩:=Vw h Y1;injection e with e1
 obtain ⟨z1,z2⟩:=GZ hi;exact ⟨g,e1,h2,(h4 _ Y1).trans z1,(h4 _ Y1).trans z2⟩):zP:=h
theorem zx7 (h:zP:=by
 have:told F (upd A e c d) i t x=told F A i t x:=by unfold told;simp only[ho,Int.reduceEq,if_false,if_true];rfl
 rw[this];exact congrArg (Prod.mk (0:Int)) (KV _ _ _)):zP:=h
theorem zx0 (h:zP:=by
 rcases h.2 with ⟨_,h2⟩ |⟨g,cap,cur,hv,hg,hh,hn,_⟩
 ·omega
 ·rw[hv] at h;exact ⟨g,cap,hv,hg,(h.lt g rfl).2,hn,fun k hk=>h.cellAt k hk,fun o=>h.frozenAt o⟩):zP:=h
theorem zv8 (h:zP:=by
 have c0:w2.cell? ⟨g,0,O⟩=V (vD w0):=hc 0 Y7;obtain ⟨W0,hW0⟩: ∃W0:ByteArray,W0=⟨w0.toArray⟩:=⟨_,rfl⟩;have c0':w2.cell? ⟨g,0,O⟩=V (.string W0):=by rw[hW0];exact c0
 have hz0:W0.size=w0.length:=by rw[hW0];rfl
 exact zvY):zP:=h
theorem zwk (h:zP:=by
 obtain ⟨nG,y',o2,qy,s1,s2,s3⟩:=zmB h1 hjk;obtain ⟨S,hS⟩: ∃S:ByteArray,S=⟨(ws[j]).toArray⟩:=⟨_,rfl⟩;have fJ:S.data.toList=ws[j]:=by rw[hS]
 have hjn:j<n:=by rw[dW.out];exact nG
 have SI:(j:Int)<(n:Int):=Y1;exact zwn):zP:=h
theorem zwi (h:zP:=by
 have H2:=Y0 (H1.out.below hb2);have aP:=Y0 (HB.out.trans (hb2.mono HB.out.size));have Af: ∀b∈B.l,b≠W.heap.size:=fun b hb=>by have:=H1.out.lt b hb;omega
 have iZ:=Y0 Af;have tC:Hid (w.heap.size≤W.heap.size):=Y0 HB.out.size;exact zvR):zP:=h
theorem zwT (h:zP:=by
 go_upto_region 24 with (first|(go_at_call 133;refine (dR.out _).mono ?_;rintro e w' ⟨rfl,rfl⟩) |(at_builtin;refine JD rfl (.tmp 35) (.tmp 36) rfl H Y2 rfl rfl ?_;clear H;intro A1 c1 wb1 H))
 exact zyd):zP:=h
theorem zxb (h:zP:=by
 go_enter Tryz.func149,Tryz.ntmps149;go_wp2_with fail;all_goals
  go_ret
  exact ⟨rfl,0,rfl⟩):zP:=h
theorem zxH (h:zP:=by
 obtain ⟨q0,q1,q2,q3,q4,q5,q6⟩:=FP.out w1;clear hp;go_wp2_with fail;rw[zc4];generalize hbw:Kn.boxed w1 ⟨xo,xa,xb,xc,xv,xm,xw⟩=wb1 at*;have HC:=Y0 (HH.out w1 HP.out);rw[hbw] at HC;generalize w1.heap.size=bx at*;exact zyb):zP:=h
theorem zyF (h:zP:=by
 go_enter Tryz.func10,Tryz.ntmps10;go_wp2;go_ret;exact ⟨_,rfl,World.ownsRow_nil _ _ _ _,Below.refl _ _⟩):zP:=h
theorem zw8 (h:zP:=by
 obtain ⟨h1,h2|⟨g,cap,cur,rfl,hg,hh,r⟩⟩:=h
 ·exact ⟨h1,Or.inl h2⟩
 ·exact ⟨h1,Or.inr ⟨g,cap,cur,rfl,hg,(hb g rfl).trans hh,r⟩⟩):zP:=h
theorem zx5 (h:zP:=by
 clear hout;subst he;have dG:=Y0 dO;clear dO;go_wp2;go_roundw;case rel=>exact ⟨j+1,by omega,by go_num,dG⟩
 case measure=>simp[intOf];omega):zP:=h
theorem zwh (h:zP:=by
 clear hm hl hk hc hf hr hz;go_wp2_with fail;go_roundw;case rel=>exact ⟨i+1,by omega,by go_num,trivial,aP⟩
 case measure=>simp[intOf];omega):zP:=h
theorem zxa (h:zP:=by
 have ou:(1:Int)≤(s.size:Int):=Y1;have iN:(s.size:Int)≤16:=Y1;have qK:0<s.size:=Y1;have hd1:decide ((s.size:Int)<1)=false:=decide_eq_false Y1;have hd2:decide ((16:Int)<(s.size:Int))=false:=decide_eq_false Y1;exact zxU):zP:=h
theorem zvp (h:zP:=by
 unfold KW;go_enter Tryz.func62,Tryz.ntmps62;go_upto_region 1 with fail;exact zuT):zP:=h
theorem zxT (h:zP:=by
 go_enter Tryz.func42,Tryz.ntmps42;go_wp2_with fail;go_ret;exact ⟨rfl,rfl⟩):zP:=h
theorem zx2 (h:zP:=by
 obtain ⟨g,cap,hv,hcap⟩:=h.slice Y1;subst hv;obtain ⟨n,hn⟩: ∃n,n=l.length:=⟨_,rfl⟩;rw[←hn] at h hcap ⊢;obtain ⟨t,ht⟩: ∃t,t=at_ l i0:=⟨_,rfl⟩;have HR:=Y0 h;have HA:=Y0 ha;have HS:=Y0 hs;exact zwa):zP:=h
theorem zxK (h:zP:=by
 go_enter Tryz.func52,Tryz.ntmps52;go_wp2_with fail;go_ret;exact ⟨rfl,rfl⟩):zP:=h
theorem zw4 (h:zP:=by
 refine ⟨rfl,hy,vw,?_,hk.mono (fun _ h=>Or.inl h),fun k hk=>Or.inl hk⟩;have:=h.keeps hk (fun i hi e=>hX (e▸hi));simpa using this):zP:=h
theorem zxm (h:zP:=by
 have hr:ZC s.data.toList=false:=by
  unfold ZC;rw[Bt s qK];simp[h3]
 have hnd: ¬(97≤((s[0]'qK).toNat:Int)∧((s[0]'qK).toNat:Int)≤122):=fun h=>h3 ((zd7 _).2 h);rw[hr];clear hr h3;exact zxj):zP:=h
theorem zyB (h:zP:=by
 refine (Zx _ 33).2 ?_;have:=ZY S 0 hSz;rw[show S.data.toList=33::r by rw[hS]] at this;exact (Option.some.inj this).symm):zP:=h
theorem zwq (h:zP:=by
 obtain ⟨A',c',R5,K5,O5⟩:=hcut.out;clear hcut;obtain ⟨w5,Az⟩: ∃w5,w5=wc:=⟨_,rfl⟩;rw[←Az] at R5 K5 ⊢;clear Az;obtain ⟨p0,p1,p2,p3,p4,pf⟩:=R5.cell;have Sn:=R5.lt;have hs5:=K5.size;exact zwS):zP:=h
theorem zxy (h:zP:=by
 have hq:=str_eq l[i].1 s;rw[decide_eq_false he] at hq;have lC:Hid (∀j (hj:j<l.length),j<i+1→l[j].1≠s.data.toList):=Y0 (fun j hj h=>by
  by_cases e:j=i
  ·subst e;exact he
  ·exact HX.out j hj Y1)
 exact zv0):zP:=h
theorem zxs (h:zP:=by
 clear he hN Lm x1 k1 HI DX;go_wp2;go_roundw;case rel=>exact ⟨i+1,by omega,by go_num,cu⟩
 case measure=>simp[intOf];omega):zP:=h
theorem zwc (h:zP:=by
 obtain ⟨a,tb,fb,own',hg,h5,t5⟩:=hq.at;exact ⟨a,tb,fb,own',hg,h5,(t1.trans (Zv _ _)).trans t5,b1.drew.move t5⟩):zP:=h
theorem zwV (h:zP:=by
 have hr:=j6.out k hlt Y90;have hnd: ¬((97≤(s[k].toNat:Int)∧(s[k].toNat:Int)≤122)∨(48≤(s[k].toNat:Int)∧(s[k].toNat:Int)≤57)):=fun h=>hdg ((zbR _).2 h);have HR:=Y0 hr;clear hdg hr;exact zwe):zP:=h
theorem zxv (h:zP:=by
 go_wp2_with fail;refine HC.out.mono ?_;rintro e w1 ⟨rfl,hb⟩;have bz:=(hb.block w.heap.size Y7).trans HZ.out;have z0:=ze bz 0;have z1:=ze bz 1;have HB:=Y0 (aL.out.trans (hb.mono Y7));exact zwE):zP:=h
theorem zwW (h:zP:=by
 apply Classical.byContradiction;intro hn;have:w.heap[p.block]?=none:=Array.getElem?_eq_none Y1;simp[World.cell?,this] at h):zP:=h
theorem zvU (h:zP:=by
 go_enter Tryz.func170,Tryz.ntmps170;go_wp2;go_ret2;exact ⟨rfl,rfl⟩):zP:=h
theorem zwK (h:zP:=by
 go_enter Tryz.func211,Tryz.ntmps211;go_wp2;go_ret;exact ⟨rfl,rfl⟩):zP:=h
theorem zw3 (h:zP:=by
 obtain ⟨T,hT⟩: ∃T:ByteArray,T=W0.extract 0 (W0.size - 1):=⟨_,rfl⟩;have fA:T.data.toList=w0.dropLast:=by
  rw[hT,Zj,cZ,List.dropLast_eq_take,List.drop_zero];congr 1;omega
 exact zyL):zP:=h
end
end Go.Proofs.YtdlpmnmenhojfaaGreatDoor
