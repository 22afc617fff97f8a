/- Part 38 of what the proof stands on: FdD7, FdD8, FdD9, FdRun, FdLw, KnNewA, KnNewB, KnNewC. -/
import Derived.Test.YtdlpmnmenhojfaaGreatDoorR03
import Derived.Test.YtdlpmnmenhojfaaGreatDoorR19
import Derived.Test.YtdlpmnmenhojfaaGreatDoorR37
set_option linter.unusedVariables false
set_option maxHeartbeats 40000000
set_option maxRecDepth 100000
variable {zP:Prop}
namespace Go.Proofs.YtdlpmnmenhojfaaGreatDoor
open Go.IntKind renaming i64->Z,u64->J
open Go.Value renaming int->E,pointer->Y,slice->Sl
open Option renaming none->O,some->V
open Go.Obj renaming cells->Ce
open Go.Ending renaming returned->Rt
open Go.Proofs.Tryz renaming prog->Tp
namespace Kn
open Go.RowKit Go.Maps Asm Errs
section
variable {Q:Nat→Prop} {F:Fixed} {w w':World} {own own':Own} {G:KG} {M:zD} {nn:Nat} {B:MB} {s:Nat} {t:Int} {Wb:Nat} {tv:Value} {rb:Nat} {lg:Int} {ne:Nat} {cs:List Value}
structure Told (Q:Nat→Prop) (F:Fixed) (w w4:World) (dx:Own) (G:KG) (M:zD) (nn:Nat) (B:MB) (s:Nat) (t:Int) (Wb rb cb wb:Nat) (lg:Int) (ne:Nat) (fw:Int→Option Int) (x:Entry) (tb:Int→Nat) (fb:Int→Nat→Nat) (ov v':Value) (cs':List Value):Prop where
 wat:Wat Q F w4 dx { G with tb:=tb,fb:=fb} (doN F M x) (nn+8) B s t Wb v' rb lg (ne+(kX F M x).out.length) cs'
 c:Zl ints w4 cb (oneG 64 1) 1
 g:Zl ints w4 wb fw 1
 o:w4.ownsRow 0 74 11 ov (kX F M x).out.length (evC (kX F M x).out)
 wo:dx wb= .other∧wb<w4.heap.size∧wb≠Wb∧v'.ownBlock≠some wb∧ ¬Q wb
 k:Keeps (fun b=> ¬Q b) w w4
 cB:cb∉B.l
 wB:wb∉B.l
 wc:wb≠cb
 wr:wb≠rb
theorem zx1 {Post:Ending→World→Prop} {cb wb eb:Nat} {n:Int} {fw:Int→Option Int} (h:Wat Q F w own G M nn B s t Wb tv rb lg ne cs) (hne:ne≤5000) (hF:F.workers=1) (oF:M.out= []) (hdue:M.clk.due= []) (x:Entry) (hx:Zm x.draw) (hn:nn≤50000) (hc:x.kind=1→bG F { doS M x with w:=0}=true) (hlen:(kX F M x).out.length≤1)
  (hcm:Zl ints w cb (oneG 64 1) 1) (qm:Zl ints w wb fw 1) (he:w.heap[eb]?=V (.cells (Ke x) 39 (0,0))) (Ey:own cb= .other) (yK:own wb= .other∧ ¬Q wb) (hap:cb∉B.l∧wb∉B.l∧wb≠cb∧wb≠rb)
  (hK8: ∀(w4:World) (dx:Own) (tb:Int→Nat) (fb:Int→Nat→Nat) (ov v':Value) (cs':List Value) (u1 u2 u3 u4 u6 u7 u11 u12 u13 u14 u15 u16 u17 u18 u19 u20 u21 u22 u23 u24 u25 u26 u27 u28 u29 u30 u31 u32 u33 u34 u35 u36 u37 u38 u39 u40 u41 u42 u43 u44 u45 u46 u47 u48 u49 u50 u51 u52 u53 u54 u55 u56 u57 u58 u59 u60 u61 u62 u63 u64 u65 u66 u67 u68 u69 u70 u71 u72 u73 u74 u75 u76 u77 u78 u79 u80 u81 u82 u83 u84 u85 u86 u87 u88 u89 u90 u91 u92 u93 u94 u95 u96 u97 u98 u99 u100 u101 u102 u103 u104 u105 u106 u107 u108 u109 u110 u111 u112 u113 u114 u115 u116 u117 u118 u119 u120 u121 u122 u123 u124 u125 u126 u127 u128 u129 u130 u131 u132 u133 u134 u135 u136 u137 u138 u139 u140 u141 u142 u143 u144 u145 u146 u147 u148 u149 u150 u151 u152 u153 u154 u155 u156 u157 u158 u159 u160 u161 u162 u163 u164 u165 u166 u167 u168 u169 u170 u171 u172 u173 u174:Value),Told Q F w w4 dx G M nn B s t Wb rb cb wb lg ne fw x tb fb ov v' cs'→(tailD 8 jq).wp Tp (bodyPost Tp Tryz.f7 Post) ⟨#[Y (V ⟨Wb,0,O⟩),u1,u2,u3,u4, .map (some cb),u6,u7, .map (some wb),E Z n,ov,u11,u12,u13,u14,u15,u16,u17,u18,u19,u20,u21,u22,u23,u24,u25,u26,u27,u28,u29,u30,u31,u32,u33,u34,u35,u36,u37,u38,u39,u40,u41,u42,u43,u44,u45,u46,u47,u48,u49,u50,u51,u52,u53,u54,u55,u56,u57,u58,u59,u60,u61,u62,u63,u64,u65,u66,u67,u68,u69,u70,u71,u72,u73,u74,u75,u76,u77,u78,u79,u80,u81,u82,u83,u84,u85,u86,u87,u88,u89,u90,u91,u92,u93,u94,u95,u96,u97,u98,u99,u100,u101,u102,u103,u104,u105,u106,u107,u108,u109,u110,u111,u112,u113,u114,u115,u116,u117,u118,u119,u120,u121,u122,u123,u124,u125,u126,u127,u128,u129,u130,u131,u132,u133,u134,u135,u136,u137,u138,u139,u140,u141,u142,u143,u144,u145,u146,u147,u148,u149,u150,u151,u152,u153,u154,u155,u156,u157,u158,u159,u160,u161,u162,u163,u164,u165,u166,u167,u168,u169,u170,u171,u172,u173,u174],[]⟩ w4) (u1 u2 u4 u6 u7 u10 u11 u12 u13 u14 u15 u16 u17 u18 u19 u20 u21 u22 u23 u24 u25 u26 u27 u28 u29 u30 u31 u32 u33 u34 u35 u36 u37 u38 u39 u40 u41 u42 u43 u44 u45 u46 u47 u48 u49 u50 u51 u52 u53 u54 u55 u56 u57 u58 u59 u60 u61 u62 u63 u64 u65 u66 u67 u68 u69 u70 u71 u72 u73 u74 u75 u76 u77 u78 u79 u80 u81 u82 u83 u84 u85 u86 u87 u88 u89 u90 u91 u92 u93 u94 u95 u96 u97 u98 u99 u100 u101 u102 u103 u104 u105 u106 u107 u108 u109 u110 u111 u112 u113 u114 u115 u116 u117 u118 u119 u120 u121 u122 u123 u124 u125 u126 u127 u128 u129 u130 u131 u132 u133 u134 u135 u136 u137 u138 u139 u140 u141 u142 u143 u144 u145 u146 u147 u148 u149 u150 u151 u152 u153 u154 u155 u156 u157 u158 u159 u160 u161 u162 u163 u164 u165 u166 u167 u168 u169 u170 u171 u172 u173 u174:Value):
  (tailD 6 jq).wp Tp (bodyPost Tp Tryz.f7 Post) ⟨#[Y (V ⟨Wb,0,O⟩),u1,u2,Y (V ⟨eb,0,O⟩),u4, .map (some cb),u6,u7, .map (some wb),E Z n,u10,u11,u12,u13,u14,u15,u16,u17,u18,u19,u20,u21,u22,u23,u24,u25,u26,u27,u28,u29,u30,u31,u32,u33,u34,u35,u36,u37,u38,u39,u40,u41,u42,u43,u44,u45,u46,u47,u48,u49,u50,u51,u52,u53,u54,u55,u56,u57,u58,u59,u60,u61,u62,u63,u64,u65,u66,u67,u68,u69,u70,u71,u72,u73,u74,u75,u76,u77,u78,u79,u80,u81,u82,u83,u84,u85,u86,u87,u88,u89,u90,u91,u92,u93,u94,u95,u96,u97,u98,u99,u100,u101,u102,u103,u104,u105,u106,u107,u108,u109,u110,u111,u112,u113,u114,u115,u116,u117,u118,u119,u120,u121,u122,u123,u124,u125,u126,u127,u128,u129,u130,u131,u132,u133,u134,u135,u136,u137,u138,u139,u140,u141,u142,u143,u144,u145,u146,u147,u148,u149,u150,u151,u152,u153,u154,u155,u156,u157,u158,u159,u160,u161,u162,u163,u164,u165,u166,u167,u168,u169,u170,u171,u172,u173,u174],[]⟩ w:=by
 obtain ⟨x0,x1,x2,x3,x4,x5,xf⟩:=Kq.at_ h.obj;have HD:=Y0 (zwN h.zg4.drew hF oF hdue x hx hn hc);have H:=Y0 h;have HH:=Y0 (And.intro hcm (And.intro qm (And.intro Ey (And.intro yK (And.intro hne hlen)))));have HK:=Y0 hK8;obtain ⟨xk,xw,xd⟩:=x;unfold Ke at*;dsimp only at*;have y0:w.cell? ⟨eb,0,O⟩=V (E Z xk):=ze he 0;have y1:w.cell? ⟨eb,1,O⟩=V (E Z xw):=ze he 1;have y2:w.cell? ⟨eb,2,O⟩=V (E J xd):=ze he 2;clear h hcm qm Ey yK hne hlen hK8 he hc hx hn hdue oF xf;conv=>arg 2;whnf
 refine wp_seq_k (fun ak hJ=>?_);have HJ:=Y0 hJ;clear hJ;go_region_with (go_at_call 25;refine HD.out.mono ?_;rintro e w2 ⟨ov,tb,fb,vQ,rfl,hk2,has,hov,hnew⟩);all_goals
  go_wp2_with fail
  refine HJ.out _ _ ?_
  clear HJ
  refine wp_seq_k (fun Jb hJb=>?_)
  have HJ:=Y0 hJb
  clear hJb
  obtain ⟨hcm,qm,Ey,yK,hne,hlen⟩:=HH.out
  have h:=H.out
  have hsz:w.drew.heap.size=w.heap.size:=rfl
  have s2:w.heap.size≤w2.heap.size:=has.keeps.size
  have e2: ∀b,b<w.heap.size→own b= .other→w2.heap[b]?=w.heap[b]?:=fun b hb ho=>has.keeps.block b hb fun q=>q ho
  have o2: ∀b,b<w.heap.size→own b= .other→vQ b= .other:=fun b hb ho=>has.own b hb ho
  have hW2:=(e2 _ h.lt h.oW).trans h.obj
  obtain ⟨z0,z1,z2,z3,z4,z5,zf⟩:=Kq.at_ hW2
  have hrow2:w2.ownsRow 0 74 11 tv ne cs:=za h.row fun b e=>e2 b (h.row.lt b e).2 (h.tvo b e).1
  obtain ⟨ie,hie,Pp,hse,hbe⟩:=info_parts znM
  obtain ⟨v',w3,happ,hrow3,hg3,Pm⟩:=zjI (P:=Tp) 0 40 40 74 ie _ 11 88 Tryz.underlying40 hie Pp hse hbe rfl Y2 hrow2 hov.1 (znW _) Y24 Y1 (Nat.zero_le _)
  have MO: ∀b,v'.ownBlock=some b→tv.ownBlock=some b∨b=w2.heap.size:=fun b e=>by
   rcases Pm with q|q
   ·exact Or.inl (by rw[←q];exact e)
   ·rw[q] at e;injection e with e;exact Or.inr e.symm
  have s3:w2.heap.size≤w3.heap.size:=hg3.size
  have e3: ∀b,b<w2.heap.size→tv.ownBlock≠some b→w3.heap[b]?=w2.heap[b]?:=fun b hb hn=>hg3.block b hb fun q=>hn q.symm
  have OV:tv.ownBlock≠some Wb:=fun e=>h.tvW Wb e rfl
  have hW3:=(e3 _ (Nat.lt_of_lt_of_le h.lt s2) OV).trans hW2
  obtain ⟨t0,t1,t2,t3,t4,t5,tf⟩:=Kq.at_ hW3
  have f2:=tf 2
  have HT:Hid (Told Q F w (w3.setCell ⟨Wb,2,O⟩ v') (ext vQ w2.heap.size .other) G M nn B s t Wb rb cb wb lg ne fw ⟨xk,xw,xd⟩ tb fb ov v' (cs++evC (kX F M ⟨xk,xw,xd⟩).out)):=Y0 (by
   have L9:Keeps (fun b=>b=Wb∨tv.ownBlock=some b) w2 (w3.setCell ⟨Wb,2,O⟩ v'):=(((Keeps.refl (fun b=>b=Wb∨tv.ownBlock=some b) w2).grown hg3 fun b e=>Or.inr e)).setCell (p:=⟨Wb,2,O⟩) (Or.inl rfl) v'
   have ht:Touch (· = .other) w2 (w3.setCell ⟨Wb,2,O⟩ v') vQ (ext vQ w2.heap.size .other):=touch_of L9 fun b e=>by
    rcases e with e|e
    ·rw[e];exact o2 _ h.lt h.oW
    ·exact o2 b (h.row.lt b e).2 (h.tvo b e).1
   have z4:(w3.setCell ⟨Wb,2,O⟩ v').heap.size=w3.heap.size:=Y7
   have all: ∀b,b<w.heap.size→own b= .other→b≠Wb→tv.ownBlock≠some b→(w3.setCell ⟨Wb,2,O⟩ v').heap[b]?=w.heap[b]?:=fun b h1 h2 h3 h5=>(zm h3).trans ((e3 b Y1 h5).trans (e2 b h1 h2))
   have o4: ∀b,b<w.heap.size→own b= .other→ext vQ w2.heap.size .other b= .other:=fun b h1 h2=>(Bh Y1).trans (o2 b h1 h2)
   have mp: ∀{mb:Nat} {es:Array MapEntry} {cc:Nat},w.heap[mb]?=V (.map es cc)→mb≠Wb∧tv.ownBlock≠some mb:=fun {mb es cc} hm=>by
    refine ⟨fun e=>?_,fun e=>?_⟩
    ·rw[e,h.obj] at hm
     cases hm
    ·obtain ⟨cur,hc⟩:=Asm.Zz h.row e
     rw[hm] at hc
     cases hc
   obtain ⟨fr,Nr,hr⟩:=h.runs
   obtain ⟨q1,q2,m1⟩:=hr.isMap
   obtain ⟨q3,q4,m2⟩:=hcm.isMap
   obtain ⟨q5,q6,m3⟩:=qm.isMap
   have hBW: ∀b∈B.l,b≠Wb:=fun b hb e=>h.nB (e▸hb)
   have RQ: ∀b∈B.l,tv.ownBlock≠some b:=fun b hb e=>(h.tvo b e).2.1 hb
   have hlo: ∀b,ov.ownBlock=some b→b≠Wb∧tv.ownBlock≠some b:=fun b hb=>by
    refine ⟨fun e=>?_,fun e=>hnew b hb (h.row.lt b e).2 (h.tvo b e).1⟩
    obtain ⟨cur,hc⟩:=Asm.Zz hov.1 hb
    rw[e,hW2] at hc
    cases hc
   refine ⟨⟨hk2.move ht,h.mod.zk Y1 fun b hb=>all b (h.mod.lt b hb) (h.oB b hb) (hBW b hb) (RQ b hb),(zy hW3 _).trans rfl,?_,fun b e=>?_,⟨fr,Nr,hr.of_block (all _ hr.lt h.oR (mp m1).1 (mp m1).2)⟩,o4 _ h.lt h.oW,fun b hb=>o4 b (h.mod.lt b hb) (h.oB b hb),o4 _ hr.lt h.oR,h.nB,h.nR,fun b q=>?_⟩,hcm.of_block (all _ hcm.lt Ey (mp m2).1 (mp m2).2),qm.of_block (all _ qm.lt yK.1 (mp m3).1 (mp m3).2),?_,⟨o4 _ qm.lt yK.1,by have:=qm.lt;omega,(mp m3).1,fun e=>?_,yK.2⟩,?_,hap.1,hap.2.1,hap.2.2.1,hap.2.2.2⟩
   ·exact za hrow3 fun b e=>zm (show b≠Wb from fun q=>by
     obtain ⟨cur,hc⟩:=Asm.Zz hrow3 e
     rw[q,hW3] at hc
     cases hc)
   ·rcases MO b e with q|q
    ·exact ⟨o4 b (h.row.lt b q).2 (h.tvo b q).1,(h.tvo b q).2⟩
    ·exact ⟨Zo (Or.inr Y1),fun r=>by have:=h.mod.lt b r;omega,fun r=>by have:=(h.q b r).2.2.2.2;omega⟩
   ·obtain ⟨r1,r2,r3,r4,r5⟩:=h.q b q
    exact ⟨o4 b r5 r1,r2,r3,r4,by omega⟩
   ·exact za hov.1 fun b e=>(zm (hlo b e).1).trans (e3 b (hov.1.lt b e).2 (hlo b e).2)
   ·rcases MO wb e with q|q
    ·exact (mp m3).2 q
    ·have:=qm.lt;omega
   ·refine ⟨hg3.os.trans has.keeps.os,hg3.tape.trans has.keeps.tape,hg3.output.trans has.keeps.output,by omega,fun b hb hn=>?_⟩
    have hq:Q b:=Classical.byContradiction hn
    obtain ⟨r1,r2,r3,r4,r5⟩:=h.q b hq
    exact all b r5 r1 r2 fun e=>(h.tvo b e).2.2 hq)
  obtain ⟨Ao,co,rfl⟩:=Asm.zn hov.1
  obtain ⟨Av,cv,rfl⟩:=Asm.zn hrow3
  obtain ⟨At,ct,rfl⟩:=Asm.zn hrow2
  have FM:=Y0 happ
  clear h hcm qm Ey yK hne hlen s2 e2 o2 hW2 hrow2 hie Pp hse hbe happ hrow3 hg3 Pm MO s3 e3 OV hW3 hk2 has hov hnew H HH HD zf tf hsz
  go_wp2_with (at_builtin;refine Go.Lib.wpList_append_run _ rfl (.tmp 74) (.tmp 75) 40 40 rfl _ _ rfl rfl _ _ FM.out ?_)
  refine HJ.out _ _ ?_
  exact HK.out _ _ _ _ _ _ _ _ _ _ _ _ _ _ _ _ _ _ _ _ _ _ _ _ _ _ _ _ _ _ _ _ _ _ _ _ _ _ _ _ _ _ _ _ _ _ _ _ _ _ _ _ _ _ _ _ _ _ _ _ _ _ _ _ _ _ _ _ _ _ _ _ _ _ _ _ _ _ _ _ _ _ _ _ _ _ _ _ _ _ _ _ _ _ _ _ _ _ _ _ _ _ _ _ _ _ _ _ _ _ _ _ _ _ _ _ _ _ _ _ _ _ _ _ _ _ _ _ _ _ _ _ _ _ _ _ _ _ _ _ _ _ _ _ _ _ _ _ _ _ _ _ _ _ _ _ _ _ _ _ _ _ _ _ _ _ _ _ _ _ _ _ _ _ _ _ _ HT.out
end
section
variable {Q:Nat→Prop} {F:Fixed} {w w':World} {own own':Own} {G:KG} {M:zD} {nn:Nat} {B:MB} {s:Nat} {t:Int} {Wb:Nat} {tv:Value} {rb:Nat} {lg:Int} {ne:Nat} {cs:List Value}
theorem zuB {Post:Ending→World→Prop} (h:Wat Q F w own G M nn B s t Wb tv rb lg ne cs) (hs:s≤3) (hn:nn≤50000) (hF:F.workers=1) (x:Entry) (hx:x.kind=2∨(x.kind=1∧x.w=0))
  (Fv: ∀(w7:World) (nN:Own) (cb wb eb:Nat) (fw:Int→Option Int) (n:Int) (u1 u2 u4 u6 u7 u10 u11 u12 u13 u14 u15 u16 u17 u18 u19 u20 u21 u22 u23 u24 u25 u26 u27 u28 u29 u30 u31 u32 u33 u34 u35 u36 u37 u38 u39 u40 u41 u42 u43 u44 u45 u46 u47 u48 u49 u50 u51 u52 u53 u54 u55 u56 u57 u58 u59 u60 u61 u62 u63 u64 u65 u66 u67 u68 u69 u70 u71 u72 u73 u74 u75 u76 u77 u78 u79 u80 u81 u82 u83 u84 u85 u86 u87 u88 u89 u90 u91 u92 u93 u94 u95 u96 u97 u98 u99 u100 u101 u102 u103 u104 u105 u106 u107 u108 u109 u110 u111 u112 u113 u114 u115 u116 u117 u118 u119 u120 u121 u122 u123 u124 u125 u126 u127 u128 u129 u130 u131 u132 u133 u134 u135 u136 u137 u138 u139 u140 u141 u142 u143 u144 u145 u146 u147 u148 u149 u150 u151 u152 u153 u154 u155 u156 u157 u158 u159 u160 u161 u162 u163 u164 u165 u166 u167 u168 u169 u170 u171 u172 u173 u174:Value),n=M.entries→Wat Q F w7 nN G M nn B s t Wb tv rb lg ne cs→Below w.heap.size w w7→Zl ints w7 cb (oneG 64 1) 1→Zl ints w7 wb fw 1→w7.heap[eb]?=V (.cells (Ke x) 39 (0,0))→nN cb= .other→nN wb= .other∧ ¬Q wb→(cb∉B.l∧wb∉B.l∧wb≠cb∧wb≠rb)→(tailD 6 jq).wp Tp (bodyPost Tp Tryz.f7 Post) ⟨#[Y (V ⟨Wb,0,O⟩),u1,u2,Y (V ⟨eb,0,O⟩),u4, .map (some cb),u6,u7, .map (some wb),E Z n,u10,u11,u12,u13,u14,u15,u16,u17,u18,u19,u20,u21,u22,u23,u24,u25,u26,u27,u28,u29,u30,u31,u32,u33,u34,u35,u36,u37,u38,u39,u40,u41,u42,u43,u44,u45,u46,u47,u48,u49,u50,u51,u52,u53,u54,u55,u56,u57,u58,u59,u60,u61,u62,u63,u64,u65,u66,u67,u68,u69,u70,u71,u72,u73,u74,u75,u76,u77,u78,u79,u80,u81,u82,u83,u84,u85,u86,u87,u88,u89,u90,u91,u92,u93,u94,u95,u96,u97,u98,u99,u100,u101,u102,u103,u104,u105,u106,u107,u108,u109,u110,u111,u112,u113,u114,u115,u116,u117,u118,u119,u120,u121,u122,u123,u124,u125,u126,u127,u128,u129,u130,u131,u132,u133,u134,u135,u136,u137,u138,u139,u140,u141,u142,u143,u144,u145,u146,u147,u148,u149,u150,u151,u152,u153,u154,u155,u156,u157,u158,u159,u160,u161,u162,u163,u164,u165,u166,u167,u168,u169,u170,u171,u172,u173,u174],[]⟩ w7):
  Calls Tp 7 #[Y (V ⟨Wb,0,O⟩), .agg (Ke x)] w Post:=by
 have D5:VU (64:Int):=Y14;have HR:Hid (∀aB,Below w.heap.size w aB→Calls Tp 24 #[Y (V ⟨Wb,0,O⟩), .agg (Ke x)] aB fun e w'=> ∃r:Int,e=Rt (E J r)∧VU r∧Below aB.heap.size aB w'):=Y0 fun aB hV=>by
  obtain ⟨xk,xw,xd⟩:=x;rcases hx with q|⟨q1,q2⟩
  ·dsimp only at q;subst q;exact zgM aB Wb xw xd
  ·dsimp only at q1 q2;subst q1 q2;exact zf6 (h.zg4.below hV) Y1 hF ((hV.cell (p:=⟨Wb,0,O⟩) h.lt).trans (Kq.at_ h.obj).1) xd
 have HE:Hid (∀aB,Below w.heap.size w aB→Calls Tp 11 #[Y (V ⟨G.K,0,O⟩)] aB fun e w'=>e=Rt (E Z M.entries)∧w'=aB):=Y0 fun aB hV=>jG (h.zg4.below hV);have HL:Hid (∀aB,Below w.heap.size w aB→Calls Tp 22 #[Y (V ⟨B.M,0,O⟩)] aB fun e w'=> ∃g c,e=Rt (Sl (V ⟨g,0,O⟩) 1 c)∧w'.cell? ⟨g,0,O⟩=V (E J 64)∧g<w'.heap.size∧aB.heap.size≤g∧Below aB.heap.size aB w'):=Y0 fun aB hV=>zju (h.mod.below hV);have HC:Hid (∀aB,Below w.heap.size w aB→Calls Tp 23 #[Y (V ⟨B.M,0,O⟩),E J 64] aB fun e w'=>e=Rt (.bool true)∧ ∃m,w'=aB.drewN m):=Y0 fun aB hV=>zj9 (h.mod.below hV) hs
 have HX:Hid (∀aB,Below w.heap.size w aB→aB.cell? ⟨Wb,0,O⟩=V (Y (V ⟨G.K,0,O⟩))∧aB.cell? ⟨Wb,1,O⟩=V (Y (V ⟨B.M,0,O⟩))∧aB.cell? ⟨Wb,5,O⟩=some .nilIface):=Y0 fun aB hV=>by
  obtain ⟨x0,x1,-,-,-,x5,-⟩:=Kq.at_ ((hV.block _ h.lt).trans h.obj);exact ⟨x0,x1,x5⟩
 have HZ:=Y0 (And.intro h Fv);have hb1:Below w.heap.size w (w.alloc (Ce (Ke x) 39)):=(Below.refl _ _).alloc (Nat.le_refl _) _;have hz1:=heap_alloc_new w (.cells (Ke x) 39);have hmm:=@run_makeMap Tp;clear h Fv hx hs hn hF;obtain ⟨xk,xw,xd⟩:=x;unfold Ke at*;dsimp only at*;go_enter Tryz.func7,Tryz.ntmps7;refine wp_seq_k (fun ak hJ=>?_);have HJ:=Y0 hJ;clear hJ;go_wp2_with fail;refine HJ.out _ _ ?_;clear HJ;generalize w.alloc _=w1 at*;have s1:=hb1.size;obtain ⟨x0,x1,x5⟩:=HX.out w1 hb1;refine wp_seq_k (fun ak hJ=>?_);have HJ:=Y0 hJ;clear hJ;go_wp2_with fail;refine HJ.out _ _ ?_;clear HJ;refine wp_seq_k (fun ak hJ=>?_);have HJ:=Y0 hJ;clear hJ;go_wp2_with fail;refine HJ.out _ _ ?_;clear HJ;have hm2:=heap_alloc_new w1 (.map #[] 0);have hz2:=(heap_alloc_old w1 (.map #[] 0) (zo hz1)).trans hz1
 have hb2:Below w.heap.size w (w1.alloc (.map #[] 0)):=hb1.alloc s1 _;have hs2:(w1.alloc (.map #[] 0)).heap.size=w1.heap.size+1:=Y7;generalize w1.alloc _=w2 at*;have j4:=Y0 (HL.out w2 hb2);obtain ⟨x0,x1,x5⟩:=HX.out w2 hb2;refine wp_seq_k (fun ak hJ=>?_);have HJ:=Y0 hJ;clear hJ;go_wp2_with fail;refine j4.out.mono ?_;rintro e w3 ⟨g,c,rfl,g0,gl,gh,aU⟩;have hb3:Below w.heap.size w w3:=hb2.trans (aU.mono hb2.size);have eP:=(aU.block _ (zo hm2)).trans hm2;have hz3:=(aU.block _ (zo hz2)).trans hz2;have s3:=aU.size;obtain ⟨x0,x1,x5⟩:=HX.out w3 hb3;have iZ:=Y0 (HC.out w3 hb3);clear j4;go_wp2_with fail;refine wp_loop_rounds 2 ?_;rw[rounds_succ];go_wp2_with fail;refine iZ.out.mono ?_;rintro e w4' ⟨rfl,m,rfl⟩;have gc:Zl ints (w3.drewN m) w1.heap.size (fun _=>none) 0:=(Zl.fresh eP).of_block rfl;have lc:=zqj gc D5
 replace lc:(Instr.lookup 65 (.map (some w1.heap.size)) (E J 64) false).run Tp (w3.drewN m)= .ok (E Z 0) (w3.drewN m):=lc;obtain ⟨w4,u4,g4,t4⟩:=gc.store Y2 Tryz.underlying65 D5 (1:Int);replace u4:(Instr.mapUpdate 65 (.map (some w1.heap.size)) (E J 64) (E Z 1)).run Tp (w3.drewN m)= .ok () w4:=u4;have e4: ∀b,b<w3.heap.size→b≠w1.heap.size→w4.heap[b]?=w3.heap[b]?:=fun b hb hn=>t4.grown.block b hb fun e=>hn Y18;have s4:w3.heap.size≤w4.heap.size:=t4.grown.size;have Fz:=s1;have SB:w.heap.size<w1.heap.size:=zo hz1;have hb4:Below w.heap.size w w4:=⟨t4.grown.os.trans hb3.os,t4.grown.tape.trans hb3.tape,t4.grown.output.trans hb3.output,by have:=hb3.size;omega,fun b hb=>(e4 b (by have:=hb3.size;omega) Y1).trans (hb3.block b hb)⟩;have eZ:=(e4 _ (zo hz3) Y1).trans hz3
 have g4':Zl ints w4 w1.heap.size (oneG 64 1) 1:=g4.same (zaT 64 1);have g04:w4.cell? ⟨g,0,O⟩=V (E J 64):=(World.cell?_of_block (a:=⟨g,0,O⟩) (e4 g gl Y1)).trans g0;obtain ⟨x0,x1,x5⟩:=HX.out w4 hb4;clear t4 e4 g4 gc eP hz3 hb3 aU iZ;go_wp2_with fail;rw[rounds_succ];go_wp2_with fail;refine HJ.out _ _ ?_;clear HJ;have Ay:=heap_alloc_new w4 (.map #[] 0);have mD:=(heap_alloc_old w4 (.map #[] 0) (zo eZ)).trans eZ;have hb5:Below w.heap.size w (w4.alloc (.map #[] 0)):=hb4.alloc hb4.size _;have g5:Zl ints (w4.alloc (.map #[] 0)) w1.heap.size (oneG 64 1) 1:=g4'.of_block (heap_alloc_old w4 _ g4'.lt);have v0:(w4.alloc (.map #[] 0)).cell? ⟨w.heap.size,0,O⟩=V (E Z xk):=ze mD 0;have v1:(w4.alloc (.map #[] 0)).cell? ⟨w.heap.size,1,O⟩=V (E Z xw):=ze mD 1
 have v2:(w4.alloc (.map #[] 0)).cell? ⟨w.heap.size,2,O⟩=V (E J xd):=ze mD 2;have y0:w4.cell? ⟨w.heap.size,0,O⟩=V (E Z xk):=ze eZ 0;have y1:w4.cell? ⟨w.heap.size,1,O⟩=V (E Z xw):=ze eZ 1;have y2:w4.cell? ⟨w.heap.size,2,O⟩=V (E J xd):=ze eZ 2;have hzl:w.heap.size<w4.heap.size:=zo eZ;have NK:=Y0 (HR.out _ hb5);have H5:=Y0 (And.intro Ay (And.intro mD (And.intro hb5 g5)));clear Ay mD hb5 g5 g4' eZ hb4;refine wp_seq_k (fun ak hJ=>?_);have HJ:=Y0 hJ;clear hJ;go_wp2_with fail;refine NK.out.mono ?_;rintro e w6 ⟨r,rfl,hr,pO⟩;obtain ⟨Ay,mD,hb5,g5⟩:=H5.out;have hb6:Below w.heap.size w w6:=hb5.trans (pO.mono hb5.size);have Pj:=(pO.block _ (zo Ay)).trans Ay;have sV:=(pO.block _ (zo mD)).trans mD;have g6:=g5.of_block (pO.block _ g5.lt)
 obtain ⟨w7,u7,g7,t7⟩:=(Zl.fresh (S:=ints) Pj).store Y2 Tryz.underlying65 hr (1:Int);replace u7:(Instr.mapUpdate 65 (.map (some w4.heap.size)) (E J r) (E Z 1)).run Tp w6= .ok () w7:=u7;have e7: ∀b,b<w6.heap.size→b≠w4.heap.size→w7.heap[b]?=w6.heap[b]?:=fun b hb hn=>t7.grown.block b hb fun e=>hn Y18;have s7:w6.heap.size≤w7.heap.size:=t7.grown.size;have dU:Below w.heap.size w w7:=⟨t7.grown.os.trans hb6.os,t7.grown.tape.trans hb6.tape,t7.grown.output.trans hb6.output,by have:=hb6.size;omega,fun b hb=>(e7 b (by have:=hb6.size;omega) Y1).trans (hb6.block b hb)⟩;have Fq:Zl ints w7 w1.heap.size (oneG 64 1) 1:=g6.of_block (e7 _ g6.lt Y1);have sW:=(e7 _ (zo sV) Y1).trans sV;obtain ⟨x0,x1,x5⟩:=HX.out w7 dU;have tH:=Y0 (HE.out w7 dU);have H7:=Y0 (And.intro Fq (And.intro g7 (And.intro sW dU)))
 have Qq:=Y0 (And.intro s1 (And.intro SB hzl));clear Ay mD hb5 g5 hb6 Pj sV g6 g7 t7 e7 s7 dU Fq sW pO H5 NK;go_wp2_with fail;refine HJ.out _ _ ?_;clear HJ;refine wp_seq_k (fun ak hJ=>?_);have HJ:=Y0 hJ;clear hJ;go_wp2_with fail;refine tH.out.mono ?_;rintro e w9 ⟨rfl,sS⟩;subst sS;go_wp2_with fail;refine HJ.out _ _ ?_;obtain ⟨Fq,g7,sW,dU⟩:=H7.out;obtain ⟨h,Fv⟩:=HZ.out;obtain ⟨l1,l2,l3⟩:=Qq.out
 exact Fv _ (ext own w.heap.size .other) w1.heap.size w4.heap.size w.heap.size _ M.entries _ _ _ _ _ _ _ _ _ _ _ _ _ _ _ _ _ _ _ _ _ _ _ _ _ _ _ _ _ _ _ _ _ _ _ _ _ _ _ _ _ _ _ _ _ _ _ _ _ _ _ _ _ _ _ _ _ _ _ _ _ _ _ _ _ _ _ _ _ _ _ _ _ _ _ _ _ _ _ _ _ _ _ _ _ _ _ _ _ _ _ _ _ _ _ _ _ _ _ _ _ _ _ _ _ _ _ _ _ _ _ _ _ _ _ _ _ _ _ _ _ _ _ _ _ _ _ _ _ _ _ _ _ _ _ _ _ _ _ _ _ _ _ _ _ _ _ _ _ _ _ _ _ _ _ _ _ _ _ _ _ _ _ _ _ _ _ _ _ _ rfl (h.below dU) dU Fq g7 sW (Zo (Or.inr Y1)) ⟨Zo (Or.inr Y1),fun q=>by have:=(h.q _ q).2.2.2.2;omega⟩ ⟨fun q=>by have:=h.mod.lt _ q;omega,fun q=>by have:=h.mod.lt _ q;omega,by omega,by obtain ⟨fr,Nr,hr⟩:=h.runs;have:=hr.lt;omega⟩
end
section
variable {Q:Nat→Prop} {F:Fixed} {w w':World} {own own':Own} {G:KG} {M:zD} {nn:Nat} {B:MB} {s:Nat} {t:Int} {Wb:Nat} {tv:Value} {rb:Nat} {lg:Int} {ne:Nat} {cs:List Value}
def zwB (Q:Nat→Prop) (F:Fixed) (w w':World) (G:KG) (M:zD) (nn s:Nat) (t:Int) (Wb ne:Nat):Prop:=
 ∃own tb fb B tv rb lg cs,Wat Q F w' own { G with tb:=tb,fb:=fb} M nn B s t Wb tv rb lg ne cs∧Keeps (fun b=> ¬Q b) w w'
theorem a99.Q7 (h:zP:=by
 obtain ⟨fr,Nr,hr⟩:=hT.wat.runs;obtain ⟨hs3,hev⟩:=hev;rcases hev with ⟨q,rfl,rfl⟩ |⟨e,q,het,hk5,hT0⟩
 ·have ho:=hT.o;rw[q] at ho;obtain ⟨Ao,co,rfl⟩:=Asm.zn ho;refine zt8 hs hT.wat.mod hT.wat.obj hT.c hT.g hr hT.wat.nB rfl (fun w' hd=>?_) u1 u2 u3 u4 u6 u7 u11 u12 u13 u14 u15 u16 u17 u18 u19 u20 u21 u22 u23 u24 u25 u26 u27 u28 u29 u30 u31 u32 u33 u34 u35 u36 u37 u38 u39 u40 u41 u42 u43 u44 u45 u46 u47 u48 u49 u50 u51 u52 u53 u54 u55 u56 u57 u58 u59 u60 u61 u62 u63 u64 u65 u66 u67 u68 u69 u70 u71 u72 u73 u74 u75 u76 u77 u78 u79 u80 u81 u82 u83 u84 u85 u86 u87 u88 u89 u90 u91 u92 u93 u94 u95 u96 u97 u98 u99 u100 u101 u102 u103 u104 u105 u106 u107 u108 u109 u110 u111 u112 u113 u114 u115 u116 u117 u118 u119 u120 u121 u122 u123 u124 u125 u126 u127 u128 u129 u130 u131 u132 u133 u134 u135 u136 u137 u138 u139 u140 u141 u142 u143 u144 u145 u146 u147 u148 u149 u150 u151 u152 u153 u154 u155 u156 u157 u158 u159 u160 u161 u162 u163 u164 u165 u166 u167 u168 u169 u170 u171 u172 u173 u174
  obtain ⟨own',iL,lU,a,b⟩:=zkg hT.wat hT.wo hT.wat.mod rfl (Keeps.refl _ _) (fun b hb=>Or.inl hb) hd;exact ⟨rfl,own',tb,fb,B,v',iL,lU,cs',a,k7.trans b fun _ e=>Or.inl e⟩
 ·have ho:=hT.o;rw[q] at ho;have hcl:=hT.c.lt
  refine zu1 hs3 hT.wat.mod hT.wat.obj hT.c hT.g Y2 hr hT.wat.nB hT.cB hT.wB hT.wat.nR hT.wc hT.wr ho het hk5 (fun W hW=>hT0 B W hW) (fun B' w1 w' hM1 xB hK1 hB1 hd=>?_) u1 u2 u3 u4 u6 u7 u11 u12 u13 u14 u15 u16 u17 u18 u19 u20 u21 u22 u23 u24 u25 u26 u27 u28 u29 u30 u31 u32 u33 u34 u35 u36 u37 u38 u39 u40 u41 u42 u43 u44 u45 u46 u47 u48 u49 u50 u51 u52 u53 u54 u55 u56 u57 u58 u59 u60 u61 u62 u63 u64 u65 u66 u67 u68 u69 u70 u71 u72 u73 u74 u75 u76 u77 u78 u79 u80 u81 u82 u83 u84 u85 u86 u87 u88 u89 u90 u91 u92 u93 u94 u95 u96 u97 u98 u99 u100 u101 u102 u103 u104 u105 u106 u107 u108 u109 u110 u111 u112 u113 u114 u115 u116 u117 u118 u119 u120 u121 u122 u123 u124 u125 u126 u127 u128 u129 u130 u131 u132 u133 u134 u135 u136 u137 u138 u139 u140 u141 u142 u143 u144 u145 u146 u147 u148 u149 u150 u151 u152 u153 u154 u155 u156 u157 u158 u159 u160 u161 u162 u163 u164 u165 u166 u167 u168 u169 u170 u171 u172 u173 u174
  obtain ⟨own',iL,lU,a,b⟩:=zkg hT.wat hT.wo hM1 xB hK1 hB1 hd;exact ⟨rfl,own',tb,fb,B',v',iL,lU,cs',a,k7.trans b fun _ e=>Or.inl e⟩):zP:=h
open a99 in
theorem zoC {s':Nat} {t':Int} (h:Wat Q F w own G M nn B s t Wb tv rb lg ne cs) (hne:ne≤5000) (hs:s≤3) (hn:nn≤50000) (hF:F.workers=1) (oF:M.out= []) (hdue:M.clk.due= []) (x:Entry) (hx:x.kind=2∨(x.kind=1∧x.w=0)) (hxd:Zm x.draw) (hc:x.kind=1→bG F { doS M x with w:=0}=true) (hev:zpq s t s' t' (kX F M x).out):
  Calls Tp 7 #[Y (V ⟨Wb,0,O⟩), .agg (Ke x)] w fun e w'=>e=Rt .nilIface∧zwB Q F w w' G (doN F M x) (nn+8) s' t' Wb (ne+(kX F M x).out.length):=by
 have hlen:(kX F M x).out.length≤1:=by
  rcases hev.2 with ⟨q,-⟩ |⟨e,q,-⟩<;>rw[q]<;>simp
 exact J7
def zre (Q:Nat→Prop) (F:Fixed) (w w':World) (G:KG) (M:zD) (nn Wb:Nat) (r:List (ByteArray×Int)) (k:Int) (x:Value):Prop:=
 ∃own tb fb Bm tv rb lg,zi F w' own { G with tb:=tb,fb:=fb} M nn∧w'.heap[Wb]?=V (Kq G.K Bm tv rb lg x)∧vN w' r k x∧Keeps (fun b=> ¬Q b) w w'∧ ∀b,Q b→b≠Wb
theorem zzo.Q7 (h:zP:=by
 have ho:=hT.o;rw[q] at ho;refine zuU hT.wat.mod hT.wat.obj hT.wat.nB ho (fun W hW=>hT0 B W hW) (fun b w' hx3 pG hk4=>?_) u1 u2 u3 u4 u6 u7 u11 u12 u13 u14 u15 u16 u17 u18 u19 u20 u21 u22 u23 u24 u25 u26 u27 u28 u29 u30 u31 u32 u33 u34 u35 u36 u37 u38 u39 u40 u41 u42 u43 u44 u45 u46 u47 u48 u49 u50 u51 u52 u53 u54 u55 u56 u57 u58 u59 u60 u61 u62 u63 u64 u65 u66 u67 u68 u69 u70 u71 u72 u73 u74 u75 u76 u77 u78 u79 u80 u81 u82 u83 u84 u85 u86 u87 u88 u89 u90 u91 u92 u93 u94 u95 u96 u97 u98 u99 u100 u101 u102 u103 u104 u105 u106 u107 u108 u109 u110 u111 u112 u113 u114 u115 u116 u117 u118 u119 u120 u121 u122 u123 u124 u125 u126 u127 u128 u129 u130 u131 u132 u133 u134 u135 u136 u137 u138 u139 u140 u141 u142 u143 u144 u145 u146 u147 u148 u149 u150 u151 u152 u153 u154 u155 u156 u157 u158 u159 u160 u161 u162 u163 u164 u165 u166 u167 u168 u169 u170 u171 u172 u173 u174
 have ht:Touch (· = .other) w4 w' dx (ext dx w4.heap.size .other):=touch_of hk4 fun b e=>by
  rcases e with e|e
  ·exact hT.wat.oB b e
  ·rw[e];exact hT.wat.oW
 subst hnE;refine ⟨b,rfl,ext dx w4.heap.size .other,tb,fb,B.M,v',rb,lg,hT.wat.zg4.move ht,pG,hx3,k7.trans (hk4.mono (ay:=fun b=> ¬Q b) fun b e q=>?_) fun _ e=>Or.inl e,fun b q=>(hT.wat.q b q).2.1⟩;obtain ⟨q1,q2,q3,q4,q5⟩:=hT.wat.q b q;rcases e with e|e
 ·exact q3 e
 ·exact q2 e):zP:=h
open zzo in
theorem zr6 {r:List (ByteArray×Int)} {k:Int} (h:Wat Q F w own G M nn B s t Wb tv rb lg ne cs) (hne:ne≤5000) (hs:s≤3) (hn:nn≤50000) (hF:F.workers=1) (oF:M.out= []) (hdue:M.clk.due= []) (x:Entry) (hx:x.kind=2∨(x.kind=1∧x.w=0)) (hxd:Zm x.draw) (hc:x.kind=1→bG F { doS M x with w:=0}=true) (hev:zpH s t r k (kX F M x).out):
  Calls Tp 7 #[Y (V ⟨Wb,0,O⟩), .agg (Ke x)] w fun e w'=> ∃b:Nat,e=Rt (.iface 94 (Y (V ⟨b,0,O⟩)))∧zre Q F w w' G (doN F M x) (nn+8) Wb ((jY,M.entries)::r) k (.iface 94 (Y (V ⟨b,0,O⟩))):=by
 obtain ⟨e,q,hT0⟩:=hev;have hlen:(kX F M x).out.length≤1:=by rw[q];simp
 exact J7
end
end Kn
namespace Kn
open Asm Hp PosTab Go.Proofs.YtdlpmnmenhojfaaGreatDoor.Fair
def Jj (q:Bool×Int):List kS:=if q.1 then [⟨1,0,q.2⟩,⟨2,0,0⟩] else [⟨2,0,0⟩,⟨1,0,q.2⟩]
def gU (P:List (Bool×Int)):List kS:=P.flatMap Jj
theorem zbT (s:Int):0≤high s∧high s<18446744073709551616:=by
 unfold high lcg;rw[IntKind.wrap_u64];omega
theorem zjm (l:List kS) (s:Int): ∃q:Bool×Int,(0≤q.2∧q.2<18446744073709551616)∧(goR 1 (1+1) l (List.range (1+1)) s).1=l++Jj q:=by
 have h:=zbD 1 s;have e:Gf (1+1) s=0∨Gf (1+1) s=1:=Y1;have f: ∀t,Gf (0+1) t=0:=fun t=>by have:=zbD 0 t;omega
 have hr:List.range (1+1)= [0,1]:=rfl;rcases e with e|e
 ·refine ⟨(true,high s),zbT s,?_⟩;unfold goR;rw[e];unfold goR;rw[f,hr];unfold goR Jj ent;simp
 ·refine ⟨(false,high (lcg s)),zbT _,?_⟩;unfold goR;rw[e];unfold goR;rw[f,hr];unfold goR Jj ent;simp
theorem jW: ∀(r:Nat) (l:List kS) (s:Int),∃P:List (Bool×Int),P.length=r∧(∀q∈P,0≤q.2∧q.2<18446744073709551616)∧kH 1 r l s=l++gU P
 |0,l,s=>⟨[],rfl,(fun q h=>by cases h),(by unfold kH gU;simp)⟩
 |r+1,l,s=>by
  obtain ⟨q,hq,e⟩:=zjm l s
  obtain ⟨P,h1,h2,h3⟩:=jW r (goR 1 (1+1) l (List.range (1+1)) s).1 (goR 1 (1+1) l (List.range (1+1)) s).2
  refine ⟨q::P,by rw[List.length_cons,h1],fun x hx=>?_,?_⟩
  ·rcases List.mem_cons.1 hx with rfl|hx
   ·exact hq
   ·exact h2 x hx
  ·unfold kH
   rw[h3,e]
   unfold gU
   simp
theorem Jg (P:List (Bool×Int)):(gU P).length=2*P.length:=by
 induction P with
 |nil=>rfl
 |cons q P ih=>
  unfold gU at ih ⊢
  rw[List.flatMap_cons,List.length_append,ih]
  have:(Jj q).length=2:=by unfold Jj;split<;>rfl
  rw[this,List.length_cons]
  omega
def pkN:List (Bool×Int)→Nat→Nat
 |[],_=>0
 |_::_,0=>0
 |q::_,1=>if q.1 then 1 else 0
 |_::P,i+2=>pkN P i+1
theorem zjS: ∀(P:List (Bool×Int)) (i:Nat),(∀q∈P,0≤q.2∧q.2<18446744073709551616)→i<2*P.length→
  (∃d,(gU P)[i]?=some ⟨1,0,d⟩∧(0≤d∧d<18446744073709551616)∧pkN P (i+1)=pkN P i+1)∨((gU P)[i]?=some ⟨2,0,0⟩∧pkN P (i+1)=pkN P i)
 |[],i,_,h=>by simp at h
 |q::P,0,hq,_=>by
  have h:=hq q List.mem_cons_self
  obtain ⟨b,d⟩:=q
  cases b with
  |true=>exact Or.inl ⟨d,rfl,h,rfl⟩
  |false=>exact Or.inr ⟨rfl,rfl⟩
 |q::P,1,hq,_=>by
  have h:=hq q List.mem_cons_self
  have e:pkN P 0=0:=by cases P<;>rfl
  obtain ⟨b,d⟩:=q
  cases b with
  |true=>exact Or.inr ⟨rfl,by show pkN P 0+1=1;rw[e]⟩
  |false=>exact Or.inl ⟨d,rfl,h,by show pkN P 0+1=0+1;rw[e]⟩
 |q::P,i+2,hq,h=>by
  have e:(gU (q::P))[i+2]?=(gU P)[i]?:=by
   unfold gU
   rw[List.flatMap_cons,List.getElem?_append_right (by unfold Jj;split<;>simp)]
   have:(Jj q).length=2:=by unfold Jj;split<;>rfl
   rw[this,Nat.add_sub_cancel]
  rw[e]
  rcases zjS P i (fun x hx=>hq x (List.mem_cons_of_mem _ hx)) (by simp at h;omega) with ⟨d,h1,h2,h3⟩ |⟨h1,h2⟩
  ·exact Or.inl ⟨d,h1,h2,by show pkN P (i+1)+1=pkN P i+1+1;rw[h3]⟩
  ·exact Or.inr ⟨h1,by show pkN P (i+1)+1=pkN P i+1;rw[h2]⟩
theorem ztq: ∀(P:List (Bool×Int)) (i:Nat),i<2*P.length+1→i≤2*pkN P i+1
 |[],i,h=>by simp at h;omega
 |_::_,0,_=>by omega
 |_::_,1,_=>by omega
 |_::P,i+2,h=>by
  have:=ztq P i (by simp at h;omega)
  show i+2≤2* (pkN P i+1)+1
  omega
theorem zsC (P:List (Bool×Int)):pkN P 0=0:=by cases P<;>rfl
end Kn
namespace Kn
open Go.RowKit Go.Maps Asm Errs PosTab
def stg (k:Nat):Nat:=if k<25 then 0 else if k<32 then 1 else if k<36 then 2 else 3
theorem zb0 (k:Nat):stg k≤3:=by unfold stg;split<;>(try split)<;>(try split)<;>omega
theorem wu64:VU (64:Int):=⟨by decide,by decide⟩
theorem wu0:VU (0:Int):=⟨by decide,by decide⟩
theorem zst {k t:Nat} (hk:k<37):zpq (stg k) (t:Int) (stg (k+1)) (t:Int) ((zhR k).map fun y=>{ y with pos:=(k:Int)+(t:Int)}):=by
 refine ⟨zb0 _,?_⟩;by_cases h24:k=24
 ·subst h24;exact Or.inr ⟨_,rfl,wu64,(fun h=>absurd (show (1:Int)=5 from h) Y2),fun B W hW=>zsc hW _ _ _ _⟩
 ·by_cases h31:k=31
  ·subst h31;exact Or.inr ⟨_,rfl,wu64,(fun _=>rfl),fun B W hW=>zmo hW _ _ _⟩
  ·by_cases Lb:k=35
   ·subst Lb;exact Or.inr ⟨_,rfl,wu64,(fun h=>absurd (show (2:Int)=5 from h) Y2),fun B W hW=>znq hW _ _⟩
   ·refine Or.inl ⟨?_,?_,rfl⟩
    ·unfold zhR;rw[if_neg h24,if_neg h31,if_neg Lb,if_neg Y1];rfl
    ·unfold stg;split<;>split<;>(try split)<;>(try split)<;>(try split)<;>(try split)<;>omega
theorem zs4 {s t:Nat} (hs:s≤3) (ht:t<900000) (p:Int):zpq s (t:Int) s ((t+1:Nat):Int) [{ kind:=6,v:=(t:Int)+1,pos:=p,w:= -1}]:=by
 refine ⟨hs,Or.inr ⟨_,rfl,wu0,(fun h=>absurd (show (6:Int)=5 from h) Y2),fun B W hW=>?_⟩⟩;have:=zme hW Y1 p (-1);rw[Int.natCast_add];exact this
theorem ztX {t:Nat}:zpH (stg 37) (t:Int) [(Gg,(37:Int)+(t:Int))] 10 ((zhR 37).map fun y=>{ y with pos:=((37:Nat):Int)+(t:Int)}):=
 ⟨_,rfl,fun B W hW=>zsD hW _ _ _ _⟩
section
variable {Q:Nat→Prop} {F:Fixed} {w0 w w':World} {G:KG} {Wb:Nat} {P:List (Bool×Int)}
def zdx (Q:Nat→Prop) (F:Fixed) (w0:World) (G:KG) (Wb:Nat) (P:List (Bool×Int)) (i:Nat) (w:World):Prop:=
 ∃(k t:Nat) (M:zD) (own:Own) (tb:Int→Nat) (fb:Int→Nat→Nat) (B:MB) (tv:Value) (rb:Nat) (lg:Int) (ne:Nat) (cs:List Value),k=pkN P i∧i=k+t∧k≤37∧ne≤i∧jT F k t M∧Wat Q F w own { G with tb:=tb,fb:=fb} M (3+8*i) B (stg k) (t:Int) Wb tv rb lg ne cs∧Keeps (fun b=> ¬Q b) w0 w
def Dead (Q:Nat→Prop) (F:Fixed) (w0:World) (G:KG) (Wb i:Nat) (x:Value) (w:World):Prop:=
 ∃(M:zD) (own:Own) (tb:Int→Nat) (fb:Int→Nat→Nat) (nn Bm:Nat) (tv:Value) (rb:Nat) (lg:Int),M.entries=(i:Int)+1∧zi F w own { G with tb:=tb,fb:=fb} M nn∧w.heap[Wb]?=V (Kq G.K Bm tv rb lg x)∧vN w [(jY,(i:Int)),(Gg,(i:Int))] 10 x∧Keeps (fun b=> ¬Q b) w0 w
def KC (e:Fair.kS):Entry:=⟨e.kind,e.who,e.draw⟩
theorem zjU {i:Nat} (h:zdx Q F w0 G Wb P i w) (hP:i<2*P.length+1):i≤75:=by
 obtain ⟨k,t,M,own,tb,fb,B,tv,rb,lg,ne,cs,hk,hi,h37,-⟩:=h;have:=ztq P i hP;omega
theorem zjy (hA:zfP F) (hq: ∀q∈P,0≤q.2∧q.2<18446744073709551616) {i:Nat} (hi:i<2*P.length) (h:zdx Q F w0 G Wb P i w):
  ∃e,(gU P)[i]?=some e∧Calls Tp 7 #[Y (V ⟨Wb,0,O⟩), .agg (Ke (KC e))] w fun r w'=>(r= .returned .nilIface∧zdx Q F w0 G Wb P (i+1) w')∨ ∃b:Nat,r= .returned (.iface 94 (Y (V ⟨b,0,O⟩)))∧Dead Q F w0 G Wb i (.iface 94 (Y (V ⟨b,0,O⟩))) w':=by
 have h75:=zjU h Y1;obtain ⟨k,t,M,own,tb,fb,B,tv,rb,lg,ne,cs,hk,hit,h37,hne,hr,hw,hkp⟩:=h;have hstep:=zjS P i hq hi;rw[←hk] at hstep;rcases hstep with ⟨d,he,hd,hn⟩ |⟨he,hn⟩
 ·refine ⟨_,he,?_⟩;have hx2:(KC ⟨1,0,d⟩).kind=2∨((KC ⟨1,0,d⟩).kind=1∧(KC ⟨1,0,d⟩).w=0):=Or.inr ⟨rfl,rfl⟩;obtain ⟨hr2,hout⟩:=hr.pick hA Y1 (KC ⟨1,0,d⟩) rfl rfl;by_cases hk37:k=37
  ·subst hk37;have hev:zpH (stg 37) (t:Int) [(Gg,(37:Int)+(t:Int))] 10 (kX F M (KC ⟨1,0,d⟩)).out:=by rw[hout];exact ztX
   refine (zr6 hw Y1 (zb0 _) Y1 hA.one hr.out hr.due (KC ⟨1,0,d⟩) hx2 hd (fun _=>hr.cond hA Y1 _) hev).mono fun r w' ⟨b,e1,own',tb',lD,Bm,tv',iL,lU,q1,q2,q3,q4,q5⟩=>Or.inr ⟨b,e1,_,own',tb',lD,_,Bm,tv',iL,lU,?_,q1,q2,?_,hkp.trans q4 fun _ e=>Or.inl e⟩
   ·rw[hr2.ent];omega
   ·have h1:M.entries=(i:Int):=by rw[hr.ent,hit];omega
    have h2:(37:Int)+(t:Int)=(i:Int):=by rw[hit];omega
    rw[h1,h2] at q3;exact q3
  ·have hev:zpq (stg k) (t:Int) (stg (k+1)) (t:Int) (kX F M (KC ⟨1,0,d⟩)).out:=by rw[hout];exact zst Y1
   refine (zoC hw Y1 (zb0 _) Y1 hA.one hr.out hr.due (KC ⟨1,0,d⟩) hx2 hd (fun _=>hr.cond hA Y1 _) hev).mono fun r w' ⟨e1,own',tb',lD,B',tv',iL,lU,cs',q1,q2⟩=>Or.inl ⟨e1,k+1,t,_,own',tb',lD,B',tv',iL,lU,ne+(kX F M (KC ⟨1,0,d⟩)).out.length,cs',hn.symm,by omega,by omega,?_,hr2,?_,hkp.trans q2 fun _ e=>Or.inl e⟩
   ·have:(kX F M (KC ⟨1,0,d⟩)).out.length≤1:=by rcases hev.2 with ⟨q,-⟩ |⟨e,q,-⟩<;>rw[q]<;>simp
    omega
   ·have e8:3+8*i+8=3+8* (i+1):=Y1;rw[←e8];exact q1
 ·refine ⟨_,he,?_⟩;obtain ⟨hr2,hout⟩:=hr.tick (KC ⟨2,0,0⟩) rfl;have hev:zpq (stg k) (t:Int) (stg k) ((t+1:Nat):Int) (kX F M (KC ⟨2,0,0⟩)).out:=by rw[hout];exact zs4 (zb0 _) Y1 _
  refine (zoC hw Y1 (zb0 _) Y1 hA.one hr.out hr.due (KC ⟨2,0,0⟩) (Or.inl rfl) ⟨by decide,by decide⟩ (fun h=>absurd (show (2:Int)=1 from h) Y2) hev).mono fun r w' ⟨e1,own',tb',lD,B',tv',iL,lU,cs',q1,q2⟩=>Or.inl ⟨e1,k,t+1,_,own',tb',lD,B',tv',iL,lU,ne+(kX F M (KC ⟨2,0,0⟩)).out.length,cs',by rw[hn],by omega,by omega,?_,hr2,?_,hkp.trans q2 fun _ e=>Or.inl e⟩
  ·have:(kX F M (KC ⟨2,0,0⟩)).out.length≤1:=by rw[hout];simp
   omega
  ·have e8:3+8*i+8=3+8* (i+1):=Y1;rw[←e8];exact q1
theorem zgh {w2:World} {own:Own} {B:MB} {rb N:Nat} (hk:zi F w2 own G (zdR F 200 0) 3) (ho: ∀b,b<N→own b= .other) (hN:N≤w2.heap.size) (hb:Below w2.heap.size w2 w) (hM:ZG w B 0 0) (hBl: ∀b∈B.l,w2.heap.size≤b) (hW:w.heap[Wb]?=V (Kq G.K B.M (Sl none 0 0) rb 0 .nilIface)) (cZ:w2.heap.size≤Wb) (hr:w.heap[rb]?=V (.map #[] 0)) (hrl:w2.heap.size≤rb) (h1:Wb∉B.l) (h2:rb∉B.l)
  {sb:Nat} (hs:w2.heap.size≤sb∧sb<w.heap.size∧sb≠Wb∧sb∉B.l∧sb≠rb) (hP:pkN P 0=0):zdx (fun b=>b<N∨b=sb) F w G Wb P 0 w:=by
 have o: ∀b,w2.heap.size≤b→ext own w2.heap.size .other b= .other:=fun b h=>Zo (Or.inr h);refine ⟨0,0,zdR F 200 0,ext own w2.heap.size .other,G.tb,G.fb,B,_,rb,0,0,[],hP.symm,rfl,by omega,Nat.le_refl _,jT.start F,⟨hk.below hb,hM,hW,World.ownsRow_nil _ _ _ _,(fun b e=>by cases e),⟨_,_,Zl.fresh hr⟩,o _ cZ,fun b q=>o b (hBl b q),o _ hrl,h1,h2,fun b q=>?_⟩,Keeps.refl _ _⟩;rcases q with q|rfl
 ·refine ⟨(Bh Y1).trans (ho b q),by omega,fun r=>by have:=hBl b r;omega,by omega,?_⟩;have:=hb.size;omega
 ·exact ⟨o _ hs.1,hs.2.2.1,hs.2.2.2.1,hs.2.2.2.2,hs.2.1⟩
end
end Kn
namespace Kn
open Go.RowKit Asm
def Ky (K th gW A lo nF nR nQ nT nO nM:Nat):Own:=fun b=>
 if b=K then .mach else if b=th then .map else if b=gW then .wk else if b=A then .alc
 else if b<lo then .other else if b<nF then .clk else if b<nR then .fixed else if b<nQ then .ring else if b<nT then .wq else if b<nO then .tab else if b<nM then .obj else .mem
structure zaE (K th gW A lo nF nR nQ nT nO nM:Nat):Prop where
 ck:lo≤K∧K<nF
 ct:lo≤th∧th<nF
 cg:lo≤gW∧gW<nF
 d1:K≠th
 d2:K≠gW
 d3:th≠gW
 c:nF≤nR∧nR≤nQ∧nQ≤nT∧nT≤nO∧nO≤nM
 a:nM≤A
section
variable {K th gW A lo nF nR nQ nT nO nM:Nat}
theorem zxZ:Ky K th gW A lo nF nR nQ nT nO nM K= .mach:=if_pos rfl
theorem zvd (h:zaE K th gW A lo nF nR nQ nT nO nM):Ky K th gW A lo nF nR nQ nT nO nM th= .map:=by
 unfold Ky;rw[if_neg h.d1.symm,if_pos rfl]
theorem zu9 (h:zaE K th gW A lo nF nR nQ nT nO nM):Ky K th gW A lo nF nR nQ nT nO nM gW= .wk:=by
 unfold Ky;rw[if_neg h.d2.symm,if_neg h.d3.symm,if_pos rfl]
theorem zxE (h:zaE K th gW A lo nF nR nQ nT nO nM):Ky K th gW A lo nF nR nQ nT nO nM A= .alc:=by
 have h1:=h.ck;have h2:=h.ct;have h3:=h.cg;have h4:=h.c;have h5:=h.a;unfold Ky;rw[if_neg Y1,if_neg Y1,if_neg Y1,if_pos rfl]
theorem ztM (h:zaE K th gW A lo nF nR nQ nT nO nM) {b:Nat} (hb:b<lo):Ky K th gW A lo nF nR nQ nT nO nM b= .other:=by
 have h1:=h.ck;have h2:=h.ct;have h3:=h.cg;have h4:=h.c;have h5:=h.a;unfold Ky;rw[if_neg Y1,if_neg Y1,if_neg Y1,if_neg Y1,if_pos hb]
theorem zs6 (h:zaE K th gW A lo nF nR nQ nT nO nM) {b:Nat} (hb:lo≤b∧b<nF) (h1:b≠K∧b≠th∧b≠gW):Ky K th gW A lo nF nR nQ nT nO nM b= .clk:=by
 have h4:=h.c;have h5:=h.a;unfold Ky;rw[if_neg h1.1,if_neg h1.2.1,if_neg h1.2.2,if_neg Y1,if_neg Y1,if_pos hb.2]
theorem zee (h:zaE K th gW A lo nF nR nQ nT nO nM) {b:Nat} (hb:nF≤b∧b<nR):Ky K th gW A lo nF nR nQ nT nO nM b= .fixed:=by
 have h1:=h.ck;have h2:=h.ct;have h3:=h.cg;have h4:=h.c;have h5:=h.a;unfold Ky;rw[if_neg Y1,if_neg Y1,if_neg Y1,if_neg Y1,if_neg Y1,if_neg Y1,if_pos hb.2]
theorem zo4 (h:zaE K th gW A lo nF nR nQ nT nO nM) {b:Nat} (hb:nR≤b∧b<nQ):Ky K th gW A lo nF nR nQ nT nO nM b= .ring:=by
 have h1:=h.ck;have h2:=h.ct;have h3:=h.cg;have h4:=h.c;have h5:=h.a;unfold Ky;rw[if_neg Y1,if_neg Y1,if_neg Y1,if_neg Y1,if_neg Y1,if_neg Y1,if_neg Y1,if_pos hb.2]
theorem zvc (h:zaE K th gW A lo nF nR nQ nT nO nM) {b:Nat} (hb:nQ≤b∧b<nT):Ky K th gW A lo nF nR nQ nT nO nM b= .wq:=by
 have h1:=h.ck;have h2:=h.ct;have h3:=h.cg;have h4:=h.c;have h5:=h.a;unfold Ky;rw[if_neg Y1,if_neg Y1,if_neg Y1,if_neg Y1,if_neg Y1,if_neg Y1,if_neg Y1,if_neg Y1,if_pos hb.2]
theorem zsd (h:zaE K th gW A lo nF nR nQ nT nO nM) {b:Nat} (hb:nT≤b∧b<nO):Ky K th gW A lo nF nR nQ nT nO nM b= .tab:=by
 have h1:=h.ck;have h2:=h.ct;have h3:=h.cg;have h4:=h.c;have h5:=h.a;unfold Ky;rw[if_neg Y1,if_neg Y1,if_neg Y1,if_neg Y1,if_neg Y1,if_neg Y1,if_neg Y1,if_neg Y1,if_neg Y1,if_pos hb.2]
theorem zsN (h:zaE K th gW A lo nF nR nQ nT nO nM) {b:Nat} (hb:nO≤b∧b<nM):Ky K th gW A lo nF nR nQ nT nO nM b= .obj:=by
 have h1:=h.ck;have h2:=h.ct;have h3:=h.cg;have h4:=h.c;have h5:=h.a;unfold Ky;rw[if_neg Y1,if_neg Y1,if_neg Y1,if_neg Y1,if_neg Y1,if_neg Y1,if_neg Y1,if_neg Y1,if_neg Y1,if_neg Y1,if_pos hb.2]
theorem zet (h:zaE K th gW A lo nF nR nQ nT nO nM) {b:Nat} (hb:nM≤b) (hA:b≠A):Ky K th gW A lo nF nR nQ nT nO nM b= .mem:=by
 have h1:=h.ck;have h2:=h.ct;have h3:=h.cg;have h4:=h.c;unfold Ky;rw[if_neg Y1,if_neg Y1,if_neg Y1,if_neg hA,if_neg Y1,if_neg Y1,if_neg Y1,if_neg Y1,if_neg Y1,if_neg Y1,if_neg Y1]
end
def zkT:Value:=Y none
def P7 (F:Fixed) (lv cv pv:Value) (entry:Int):List Value:= [lv,E Z F.loop,cv,pv,E Z entry,E Z F.wide,E Z F.narrow]
def VI (F:Fixed) (k:Nat):List Value:=(List.range 1000).map fun (i:Nat)=>Value.int Z ((gY (F.calls.take k) (i:Int):Nat):Int)
def ptr (b:Nat):Value:=Y (V ⟨b,0,O⟩)
def S14 (X A C Rg Q T aA th gW n:Nat):List Value:= [ptr X,ptr A,ptr C,ptr Rg,ptr Q,ptr T,ptr aA, .map (some th),Sl (V ⟨gW,0,O⟩) n n,E Z 0,E Z 0,E Z 0,E J 0,Sl none 0 0]
theorem zlW (F:Fixed):F.calls.take F.calls.length=F.calls:=List.take_length
theorem znR {w:World} {F:Fixed} {G:KG} {entry:Int} {cells:Nat} (h:KB w G.K (P7 F G.lv G.cv G.pv entry) (VI F F.calls.length) (S14 G.X G.A G.C G.R G.Q G.T G.aA G.th G.gW F.workers)):zcQ (P7 F G.lv G.cv G.pv entry++VI F F.calls.length++S14 G.X G.A G.C G.R G.Q G.T G.aA G.th G.gW F.workers).toArray F G (Kk F cells) (Sl none 0 0):=by
 have hl:(P7 F G.lv G.cv G.pv entry++VI F F.calls.length).length=1007:=by rw[List.length_append,h.p,h.r]
 have p: ∀j,j<7→ ∀v,(P7 F G.lv G.cv G.pv entry)[j]?=some v→(P7 F G.lv G.cv G.pv entry++VI F F.calls.length++S14 G.X G.A G.C G.R G.Q G.T G.aA G.th G.gW F.workers).toArray[j]?=some v:=fun j hj v hv=>by
  rw[List.getElem?_toArray,List.append_assoc,List.getElem?_append_left (by rw[h.p];exact hj),hv]
 have s: ∀j v,(S14 G.X G.A G.C G.R G.Q G.T G.aA G.th G.gW F.workers)[j]?=some v→(P7 F G.lv G.cv G.pv entry++VI F F.calls.length++S14 G.X G.A G.C G.R G.Q G.T G.aA G.th G.gW F.workers).toArray[1007+j]?=some v:=fun j v hv=>by
  rw[List.getElem?_toArray,List.getElem?_append_right (by rw[hl];omega),hl,Nat.add_sub_cancel_left,hv]
 refine ⟨?_,p 0 Y2 _ rfl,p 1 Y2 _ rfl,p 2 Y2 _ rfl,p 3 Y2 _ rfl,p 5 Y2 _ rfl,p 6 Y2 _ rfl,fun i hi=>?_,s 0 _ rfl,s 1 _ rfl,s 2 _ rfl,s 3 _ rfl,s 4 _ rfl,s 5 _ rfl,s 6 _ rfl,s 7 _ rfl,s 8 _ rfl,s 9 _ rfl,s 10 _ rfl,s 11 _ rfl,s 12 _ rfl,s 13 _ rfl⟩
 ·rw[List.size_toArray,List.length_append,hl,h.s]
 ·rw[List.getElem?_toArray,List.append_assoc,List.getElem?_append_right (by rw[h.p];omega),h.p,List.getElem?_append_left (by rw[h.r];omega),Nat.add_sub_cancel_left];unfold VI;rw[List.getElem?_map,List.getElem?_range hi,zlW];rfl
def wk0 (F:Fixed):Wkr:={ f:={ pc:=F.loop}}
structure zvr (w:World) (F:Fixed) (G:KG) (cells lo nF nR nQ nT nO nM:Nat) (entry:Int):Prop where
 kb:KB w G.K (P7 F G.lv G.cv G.pv entry) (VI F F.calls.length) (S14 G.X G.A G.C G.R G.Q G.T G.aA G.th G.gW F.workers)
 lib:w.ownsRow nF 111 7 G.lv F.lib.length (Ze F.lib)
 calls:w.ownsRow nF 125 6 G.cv F.calls.length (ku F.calls)
 code:w.ownsRow nF 111 7 G.pv F.code.length (Ze F.code)
 rows: ∀b,G.lv.ownBlock=some b∨G.cv.ownBlock=some b∨G.pv.ownBlock=some b→b<nR
 mem: ∃gc gw,Zn w G.X gc gw (zdB F cells)∧(nM≤G.X∧nM≤gc∧nM≤gw)∧G.X≠G.A∧gc≠G.A∧gw≠G.A
 alc:VR w G.A G.X (Sl none 0 0) ⟨bE F+F.wide.toNat+F.narrow.toNat,cells,[]⟩
 clk: ∃hb hm ab,KE w G.C hb hm (Sl none 0 0) ab { now:=0,S:= [],last:=0} 0 0∧ ∀b,b=G.C∨b=hb∨b=hm∨b=ab→(lo≤b∧b<nF)∧b≠G.K∧b≠G.th∧b≠G.gW
 ring: ∃gr,gJ w G.R gr []∧ ∀b,b=G.R∨b=gr→nR≤b∧b<nQ
 wq: ∃gl mb B,WqP w G.Q gl mb B [] 0∧ ∀b,b=G.Q∨b=gl∨b=mb→nQ≤b∧b<nT
 tab: ∃gt,Vh w G.T gt (List.replicate 64 {}) 0∧ ∀b,b=G.T∨b=gt→nT≤b∧b<nO
 obj: ∃go,VE w G.aA go (List.replicate 64 {}) 0∧ ∀b,b=G.aA∨b=go→nO≤b∧b<nM
 th:Zl ptrs w G.th (fun _=>none) 0
 wk:w.heap[G.gW]?=V (.cells ((List.replicate F.workers (wk0 F,Value.slice none 0 0)).flatMap kR).toArray 142 (0,0))
 cuts:zaE G.K G.th G.gW G.A lo nF nR nQ nT nO nM
theorem zvr.zg4 {w:World} {F:Fixed} {G:KG} {cells lo nF nR nQ nT nO nM:Nat} {entry:Int} (h:zvr w F G cells lo nF nR nQ nT nO nM entry) (hF:zdG F):
  zi F w (Ky G.K G.th G.gW G.A lo nF nR nQ nT nO nM) G (Kk F cells) 1:=by
 have hc:=h.cuts;refine ⟨hF,⟨⟨Int.le_refl 0,by show (0:Int)≤1;decide⟩,⟨Int.le_refl 0,by show (0:Int)≤1;decide⟩,⟨by show (-1:Int)≤0;decide,by show (0:Int)<64;decide⟩,VH,List.length_replicate,by simp[Kk]⟩,⟨zxZ,_,Sl none 0 0,h.kb.obj,znR h.kb,⟨World.ownsRow_nil _ _ _ _,fun b hb=>by cases hb⟩⟩,⟨?_,?_,?_⟩,?_,?_,?_,?_,?_,?_,?_,?_,?_⟩
 ·exact ⟨Asm.Vx h.lib (Nat.zero_le _),fun b hb=>zee hc ⟨(h.lib.lt b hb).1,h.rows b (Or.inl hb)⟩⟩
 ·exact ⟨Asm.Vx h.calls (Nat.zero_le _),fun b hb=>zee hc ⟨(h.calls.lt b hb).1,h.rows b (Or.inr (Or.inl hb))⟩⟩
 ·exact ⟨Asm.Vx h.code (Nat.zero_le _),fun b hb=>zee hc ⟨(h.code.lt b hb).1,h.rows b (Or.inr (Or.inr hb))⟩⟩
 ·obtain ⟨gc,gw,hm,hn,h1,h2,h3⟩:=h.mem;exact ⟨gc,gw,hm,fun b hb=>by
   rcases hb with rfl|rfl|rfl
   ·exact zet hc hn.1 h1
   ·exact zet hc hn.2.1 h2
   ·exact zet hc hn.2.2 h3⟩
 ·exact ⟨_,h.alc,fun b hb=>by
   rcases hb with rfl|hb
   ·exact zxE hc
   ·cases hb⟩
 ·obtain ⟨hb,hm,ab,hC,hall⟩:=h.clk;refine ⟨hb,hm,_,ab,0,0,hC,fun b hb'=>?_,by simp[Kk],by omega,by show (0:Int)≤1;decide,Int.le_refl 0,by show (0:Int)≤1;decide⟩;have:b=G.C∨b=hb∨b=hm∨b=ab:=by
   rcases hb' with e|e|e|e|e
   ·exact Or.inl e
   ·exact Or.inr (Or.inr (Or.inr e))
   ·exact Or.inr (Or.inl e)
   ·exact Or.inr (Or.inr (Or.inl e))
   ·cases e
  exact zs6 hc (hall b this).1 (hall b this).2
 ·obtain ⟨gr,hR,hall⟩:=h.ring;exact ⟨gr,hR,fun b hb=>zo4 hc (hall b hb)⟩
 ·obtain ⟨gl,mb,B,hQ,hall⟩:=h.wq;refine ⟨gl,mb,B,0,hQ,fun b hb=>zvc hc (hall b ?_),by omega⟩;rcases hb with (e|e|⟨s,hs,-⟩) |e
  ·exact Or.inl e
  ·exact Or.inr (Or.inl e)
  ·cases hs
  ·exact Or.inr (Or.inr e)
 ·obtain ⟨gt,hT,hall⟩:=h.tab;exact ⟨gt,0,hT,fun b hb=>zsd hc (hall b hb),by omega⟩
 ·obtain ⟨go,hO,hall⟩:=h.obj;exact ⟨go,0,hO,fun b hb=>zsN hc (hall b hb),by omega⟩
 ·exact ⟨List.nodup_nil,zvd hc,⟨0,h.th.same fun k _=>rfl,by omega⟩,fun r hr=>by cases hr⟩
 ·refine ⟨zu9 hc,List.replicate F.workers (wk0 F,Value.slice none 0 0),by rw[List.map_replicate];rfl,h.wk,fun i p hp=>?_⟩;have hp2:=(List.mem_replicate.1 (List.mem_of_getElem? hp)).2;subst hp2;have hl:=hF.loop;have hl2:=hF.lib;refine ⟨⟨VH,VH,⟨Int.le_refl 0,by show (0:Int)≤100;decide⟩,⟨by simp[wk0],fun x hx=>?_,⟨hl.1,by show F.loop≤_;omega⟩,by simp[wk0],fun x hx=>by simp[wk0] at hx⟩⟩,⟨World.ownsRow_nil _ _ _ _,fun b hb=>by cases hb⟩⟩;rw[(List.mem_replicate.1 hx).2];exact VH
def P0:List Value:= [Sl none 0 0,E Z 0,Sl none 0 0,Sl none 0 0,E Z 0,E Z 0,E Z 0]
def R0:List Value:=List.replicate 1000 (E Z 0)
def S0 (C th gW n:Nat):List Value:= [zkT,zkT,ptr C,zkT,zkT,zkT,zkT, .map (some th),Sl (V ⟨gW,0,O⟩) n n,E Z 0,E Z 0,E Z 0,E J 0,Sl none 0 0]
set_option maxRecDepth 1000000 in
theorem ziR (th gW C n:Nat) (W:World):(Instr.build 89 #[(10, .map (some th)),(11,Sl (V ⟨gW,0,O⟩) n n),(5,Y (V ⟨C,0,O⟩))]).run Tp W= .ok (.agg (P0++R0++S0 C th gW n).toArray) W:=Y4
def wkZ:Wkr×Value:=({},Sl none 0 0)
theorem zkV {L:List Value} {k:Nat} (hk:L.length=k) (h0:0<k) (n:Nat):madeCells L.toArray (n*k)=((List.replicate n ()).flatMap fun _=>L).toArray:=by
 apply Array.ext';apply List.ext_getElem?;intro i;unfold madeCells;rw[Array.toList_map,List.getElem?_map,Array.toList_range];by_cases hi:i<n*k
 ·rw[List.getElem?_range hi];have hq:i/k<n:=(Nat.div_lt_iff_lt_mul h0).2 hi;have hj:i%k<k:=Nat.mod_lt _ h0;have h1:=gu (k:=k) (f:=fun _:Unit=>L) (fun _=>hk) (List.replicate n ()) (i/k) (by simpa using hq) (i%k) hj;rw[Nat.mul_comm (i/k) k,Nat.div_add_mod] at h1;rw[h1];simp[hk,hj]
 ·have hl:=BA (k:=k) (f:=fun _:Unit=>L) (fun _=>hk) (List.replicate n ());rw[List.getElem?_eq_none Y8,List.getElem?_eq_none (by rw[hl,List.length_replicate];omega)];rfl
theorem zrI (n:Nat):madeCells (kR wkZ).toArray (n*38)=((List.replicate n wkZ).flatMap kR).toArray:=by
 rw[zkV (L:=kR wkZ) (k:=38) rfl Y2]
 congr 1
 induction n with
 |zero=>rfl
 |succ n ih=>rw[List.replicate_succ,List.replicate_succ,List.flatMap_cons,List.flatMap_cons,ih]
theorem zrf (n:Nat) (hn:n≤64) (W:World):(Instr.makeSlice 87 (E Z (n:Int)) (E Z (n:Int))).run Tp W= .ok (Sl (V ⟨W.heap.size,0,O⟩) n n) (W.alloc (Ce ((List.replicate n wkZ).flatMap kR).toArray 142)):=by
 have h:=zkj 87 142 n (kR wkZ).toArray 38 Tryz.underlying87 Y4 hn W;rw[zrI] at h;exact h
theorem ze4 {w:World} {b:Nat} {v:Value} {l:List zx} (h:w.ownsRow b 111 7 v l.length (Ze l)) (hl:0<l.length): ∃g c,v=Sl (V ⟨g,0,O⟩) l.length c∧vK w g l∧g<w.heap.size:=by
 have hP:Vv w (fun _=> .other) .other 111 7 v l.length (Ze l):=⟨Asm.Vx h (Nat.zero_le _),fun _ _=>rfl⟩;obtain ⟨g,c,h1,h2,-,h3⟩:=hP.zbU hl;exact ⟨g,c,h1,h2,h3⟩
structure zak (w wr:World) (n K th gW C:Nat):Prop where
 kb:KB wr K P0 R0 (S0 C th gW n)
 tmap:Zl ptrs wr th (fun _=>none) 0
 wk:wr.heap[gW]?=V (.cells ((List.replicate n wkZ).flatMap kR).toArray 142 (0,0))
 clk: ∃hb hm ab,KE wr C hb hm (Sl none 0 0) ab { now:=0,S:= [],last:=0} 0 0∧ ∀b,b=C∨b=hb∨b=hm∨b=ab→w.heap.size≤b∧b≠K∧b≠th∧b≠gW
 d:w.heap.size≤K∧w.heap.size≤th∧w.heap.size≤gW∧K≠th∧K≠gW∧th≠gW
 below:Below w.heap.size w wr
noncomputable def zo0 (th gW C n:Nat):Array Value:=((Tryz.zeroCells89.setIfInBounds 1014 (Value.map (some th))).setIfInBounds 1015 (Value.slice (V ⟨gW,0,O⟩) n n)).setIfInBounds 1009 (Value.pointer (V ⟨C,0,O⟩))
set_option maxRecDepth 1000000 in
theorem zmd (th gW C n:Nat):zo0 th gW C n=(P0++R0++S0 C th gW n).toArray:=Y4
theorem zaQ {X:World} {o:Obj} {k:Nat} (h:k=X.heap.size):(X.alloc o).heap[k]?=some o:=by
 subst h;exact heap_alloc_new X o
theorem jK (X:World) (k:Nat):X.drew.heap[k]?=X.heap[k]?:=rfl
theorem zms {wr:World} {th:Nat} (hth:wr.heap[th]?=V (.map #[] 0)):Zl ptrs wr th (fun _=>none) 0:=by
 obtain ⟨es,c,h1,h2,h3,h4⟩:=World.ownsMap_made wr Tp 22 ptrs.R;have h0:=heap_alloc_new wr (.map #[] 0);rw[h0] at h1;injection h1 with h1
 injection h1 with e1 e2
 subst e1 e2;exact ⟨_,0,⟨_,_,hth,h2,h3,h4⟩,Nat.le_refl _,fun k _=>⟨rfl,fun j hj=>by cases hj⟩⟩
theorem zoI {w2 wr w3:World} {n K th gW C hb hm ab L:Nat} (hK:wr.heap[K]?=V (.cells (zo0 th gW C n) 89 (0,0))) (hth:wr.heap[th]?=V (.map #[] 0)) (hgW:wr.heap[gW]?=V (.cells ((List.replicate n wkZ).flatMap kR).toArray 142 (0,0)))
  (hC:KE w3 C hb hm (Sl none 0 0) ab { now:=0,S:= [],last:=0} 0 0) (h1:L≤C) (h2:L≤hb) (h3:L≤hm) (h4:L≤ab) (hkeep: ∀b,b<w3.heap.size→wr.heap[b]?=w3.heap[b]?)
  (hlo:w2.heap.size≤L∧w2.heap.size≤K∧w2.heap.size≤th∧w2.heap.size≤gW) (hd:K≠th∧K≠gW∧th≠gW) (Ag:w3.heap.size≤K) (ht:th<L∨w3.heap.size≤th) (hg:gW<L∨w3.heap.size≤gW) (hb':Below w2.heap.size w2 wr):zak w2 wr n K th gW C:=by
 have hlt: ∀b,b=C∨b=hb∨b=hm∨b=ab→L≤b∧b<w3.heap.size:=fun b e=>by
  rcases e with rfl|rfl|rfl|rfl
  ·exact ⟨h1,hC.lt (Or.inl rfl)⟩
  ·exact ⟨h2,hC.lt (Or.inr (Or.inr (Or.inl rfl)))⟩
  ·exact ⟨h3,hC.lt (Or.inr (Or.inr (Or.inr (Or.inl rfl))))⟩
  ·exact ⟨h4,hC.lt (Or.inr (Or.inl rfl))⟩
 refine ⟨⟨by rw[hK,zmd],rfl,List.length_replicate,rfl⟩,zms hth,hgW,⟨hb,hm,ab,hC.zk fun b hb'=>hkeep b (hC.lt hb'),fun b e=>?_⟩,⟨hlo.2.1,hlo.2.2.1,hlo.2.2.2,hd.1,hd.2.1,hd.2.2⟩,hb'⟩;have:=hlt b e;omega
theorem zns {w2 wr w3:World} {n K th gW C hb hm ab L:Nat} (hK:wr.heap[K]?=V (.cells (zo0 th gW C n) 89 (0,0))) (hC:KE w3 C hb hm (Sl none 0 0) ab { now:=0,S:= [],last:=0} 0 0) (h1:L≤C) (h2:L≤hb) (h3:L≤hm) (h4:L≤ab) (hth:wr.heap[th]?=V (.map #[] 0)) (hgW:wr.heap[gW]?=V (.cells ((List.replicate n wkZ).flatMap kR).toArray 142 (0,0)))
  (hkeep: ∀b,b<w3.heap.size→wr.heap[b]?=w3.heap[b]?) (hlo:w2.heap.size≤L∧w2.heap.size≤K∧w2.heap.size≤th∧w2.heap.size≤gW) (hd:K≠th∧K≠gW∧th≠gW) (Ag:w3.heap.size≤K) (ht:th<L∨w3.heap.size≤th) (hg:gW<L∨w3.heap.size≤gW) (hbel:Below w2.heap.size w2 wr):
  ∃K' th' gW' C',Value.pointer (V ⟨K,0,O⟩)=Y (V ⟨K',0,O⟩)∧Hid (zak w2 wr n K' th' gW' C'):=⟨K,th,gW,C,rfl,Y0 (zoI hK hth hgW hC h1 h2 h3 h4 hkeep hlo hd Ag ht hg hbel)⟩
theorem zak.drewN {w wr:World} {n K th gW C:Nat} (h:zak w wr n K th gW C) (q:Nat):zak w (wr.drewN q) n K th gW C:=
 ⟨h.kb.of_block rfl,h.tmap.of_block rfl,h.wk,(by obtain ⟨hb,hm,ab,h1,h2⟩:=h.clk;exact ⟨hb,hm,ab,h1.zk fun _ _=>rfl,h2⟩),h.d,⟨h.below.os,h.below.tape,h.below.output,h.below.size,h.below.block⟩⟩
theorem Vg {P:Program} (w:World) {ops:Array Oper} {o:Oper} {a:Act} {K:Act→World→Prop} {Q:Exit→Act→World→Prop} {au:Prop} (hgd:o.guard=none) (s x:Operand) (t:TypeId)
  (ho:o.op= .call { callee:= .builtin .append,args:=#[s,x],argTypes:=#[t,t]})
  (base:Nat) (e:TypeId) (i:TypeInfo) (z:Value) (size bytes:Nat) (ht:P.underlying t=V (.slice e)) (hi:P.info? e=some i) (hz:i.zero=some z)
  (hsize:i.size=size) (hby:i.bytes=bytes) (hzs:z.cells.size=size) (hsz:0<size)
  (v:Value) (n:Nat) (xs:List Value) (hs:a.eval s=v) (hown:w.ownsRow base e size v n xs)
  (ad:Addr) (m c:Nat) (news:List Value) (hx:a.eval x=Sl (some ad) m c) (hl:news.length=m*size) (hnews: ∀j u,news[j]?=some u→w.cell? (ad.add j)=some u) (h1: ∀u∈news,u.oneCell'=true)
  (h63:n+m≤maxLen) (hbytes:(n+m)*bytes≤140737488355328) (hbase:base≤w.heap.size)
  (h: ∀v' w',w.ownsRow base e size v n xs→w'.ownsRow base e size v' (n+m) (xs++news)→w.grownBy w' v.ownBlock→K (a.put o.dst v') w'):
  if Region.wanted o (yielded ops a.tmps)=true then Oper.wp P o a w K Q else au:=
 Zw w hgd s x t ho base e i z size bytes ht hi hz hsize hby hzs hsz v n xs hs hown ad m c news hx hl hnews h1 h63 hbytes hbase fun v' w' a b _=>h v' w' hown a b
theorem BD {w4 X w5:World} {base e1 e2 s1 s2 n1 n2:Nat} {v4 v2:Value} {xs1 xs2:List Value} (h4:w4.ownsRow base e1 s1 v4 n1 xs1) (hX:Below w4.heap.size w4 X) (hem:X.ownsRow base e2 s2 v2 n2 xs2) (hg:X.grownBy w5 v2.ownBlock) (hne:e1≠e2):w5.ownsRow base e1 s1 v4 n1 xs1:=by
 have LD:=za h4 fun k e=>hX.block k (h4.lt k e).2;refine za LD fun k e=>hg.block k (LD.lt k e).2 fun q=>?_;rcases Go.Proofs.YtdlpmnmenhojfaaGreatDoor.BH LD hem hne with h|h
 ·rw[h] at e;cases e
 ·exact h (e.trans q)
theorem bN {w w':World} {K:Nat} (h:Keeps (fun b=>b=K∨w.heap.size≤b) w w'):Keeps (fun b=>b=K) w w':=
 ⟨h.os,h.tape,h.output,h.size,fun k hk hx=>h.block k hk fun q=>q.elim hx fun q=>by omega⟩
theorem zfR:(Tryz.prog.info? 111).map (fun i=>(i.zero,i.size,i.bytes))=V (some (.agg #[E Z 0,E Z 0,E Z 0,E Z 0,E J 0,E Z 0,E Z 0]),7,56):=Y4
theorem zea {X:World} {k base:Nat} {e:TypeId} {size:Nat} (h:X.heap[k]?=V (.cells #[] e (0,0))) (hb:base≤k):X.ownsRow base e size (Sl (V ⟨k,0,O⟩) 0 0) 0 []:=
 ⟨by simp, .inr ⟨_,0,#[],rfl,hb,h,Nat.le_refl _,by simp[maxLen],by simp,by simp⟩⟩
theorem zbt (l:List zx):(Ze l).length=l.length*7:=BA (k:=7) (f:=ziW) (fun _=>rfl) l
theorem zjl (l:List kI):(ku l).length=l.length*6:=BA (k:=6) (f:=bK) (fun _=>rfl) l
theorem za9 (l:List zx): ∀u∈Ze l,u.oneCell'=true:=fun u hu=>by
 obtain ⟨x,-,h⟩:=List.mem_flatMap.1 hu
 simp[ziW] at h
 rcases h with rfl|rfl|rfl|rfl|rfl|rfl|rfl<;>rfl
theorem ziT (l:List kI): ∀u∈ku l,u.oneCell'=true:=fun u hu=>by
 obtain ⟨x,-,h⟩:=List.mem_flatMap.1 hu
 simp[bK] at h
 rcases h with rfl|rfl|rfl|rfl|rfl|rfl<;>rfl
def PL (F:Fixed) (lv cv:Value):List Value:= [lv,E Z F.loop,cv,Sl none 0 0,E Z 0,E Z 0,E Z 0]
structure zuV (F:Fixed) (wd wx:World) (K:Nat) (lv cv:Value) (S:List Value):Prop where
 kb:KB wx K (PL F lv cv) R0 S
 lib:wx.ownsRow wd.heap.size 111 7 lv F.lib.length (Ze F.lib)
 calls:wx.ownsRow wd.heap.size 125 6 cv F.calls.length (ku F.calls)
 keeps:Keeps (fun b=>b=K) wd wx
theorem Kr {w:World} {base:Nat} {e:TypeId} {size n:Nat} {v:Value} {xs:List Value} (h:w.ownsRow base e size v n xs) {K i:Nat} {u:Value} (hK:K<base):(w.setCell ⟨K,i,O⟩ u).ownsRow base e size v n xs:=
 za h fun b hb=>zm (by have:=(h.lt b hb).1;show b≠K;omega)
theorem zro {F:Fixed} {wd X:World} {K:Nat} {lv cv:Value} {S:List Value} (kb:KB wd K P0 R0 S) (hX:Below wd.heap.size wd X) (h1:X.ownsRow wd.heap.size 111 7 lv F.lib.length (Ze F.lib)) (h2:X.ownsRow wd.heap.size 125 6 cv F.calls.length (ku F.calls)):
  zuV F wd (((X.setCell ⟨K,0,O⟩ lv).setCell ⟨K,1,O⟩ (E Z F.loop)).setCell ⟨K,2,O⟩ cv) K lv cv S:=by
 have hK:=kb.lt;refine ⟨(((kb.below hX).zia (j:=0) Y2 lv).zia (j:=1) Y2 _).zia (j:=2) Y2 cv,Kr (Kr (Kr h1 hK) hK) hK,Kr (Kr (Kr h2 hK) hK) hK,?_⟩;exact (((Keeps.zO (X:=fun b=>b=K) hX).setCell (p:=⟨K,0,O⟩) rfl _).setCell (p:=⟨K,1,O⟩) rfl _).setCell (p:=⟨K,2,O⟩) rfl _
structure zoj (F:Fixed) (wd wx:World) (K:Nat) (lv cv pv:Value) (entry:Int) (S:List Value):Prop where
 kb:KB wx K (P7 F lv cv pv entry) R0 S
 code:wx.ownsRow wd.heap.size 111 7 pv F.code.length (Ze F.code)
 keeps:Keeps (fun b=>b=K) wd wx
theorem zop {F:Fixed} {wd X:World} {K:Nat} {lv cv pv:Value} {entry:Int} {S:List Value} (kb:KB wd K (PL F lv cv) R0 S) (hX:Below wd.heap.size wd X) (h1:X.ownsRow wd.heap.size 111 7 pv F.code.length (Ze F.code)):
  zoj F wd ((((X.setCell ⟨K,3,O⟩ pv).setCell ⟨K,4,O⟩ (E Z entry)).setCell ⟨K,5,O⟩ (E Z F.wide)).setCell ⟨K,6,O⟩ (E Z F.narrow)) K lv cv pv entry S:=by
 have hK:=kb.lt;refine ⟨((((kb.below hX).zia (j:=3) Y2 pv).zia (j:=4) Y2 _).zia (j:=5) Y2 _).zia (j:=6) Y2 _,Kr (Kr (Kr (Kr h1 hK) hK) hK) hK,?_⟩;exact ((((Keeps.zO (X:=fun b=>b=K) hX).setCell (p:=⟨K,3,O⟩) rfl _).setCell (p:=⟨K,4,O⟩) rfl _).setCell (p:=⟨K,5,O⟩) rfl _).setCell (p:=⟨K,6,O⟩) rfl _
theorem zcN (l:List kI) (x:kI) (num:Int) (h0:gY l num=0∨x.num≠num):gY (l++ [x]) num=if x.num=num then l.length+1 else gY l num:=by
 unfold gY at*
 rw[List.findIdx?_append]
 cases h:l.findIdx? (fun r=>r.num==num) with
 |some i=>
  rw[h] at h0
  have hx:x.num≠num:=h0.resolve_left Y7
  rw[if_neg hx]
  rfl
 |none=>
  by_cases e:x.num=num
  ·simp[List.findIdx?_cons,e]
  ·simp[List.findIdx?_cons,e]
theorem zg3 {l:List kI} {k:Nat} (hk:k<l.length) (hn:(l.map (·.num)).Nodup):gY (l.take k) l[k].num=0:=by
 unfold gY;have:(l.take k).findIdx? (fun r=>r.num==l[k].num)=none:=by
  rw[List.findIdx?_eq_none_iff];intro x hx;obtain ⟨j,hj,rfl⟩:=List.getElem_of_mem hx;rw[List.length_take] at hj;rw[List.getElem_take];refine beq_eq_false_iff_ne.2 fun e=>?_;have h1:(l.map (·.num))[j]?=(l.map (·.num))[k]?:=by
   rw[List.getElem?_map,List.getElem?_map,List.getElem?_eq_getElem Y1,List.getElem?_eq_getElem hk];simp[e]
  have:=(List.getElem?_inj (by rw[List.length_map];omega) hn).1 h1;omega
 rw[this]
theorem zi2 (F:Fixed):VI F 0=R0:=by
 unfold VI R0;rw[List.take_zero];apply List.ext_getElem?;intro i;rw[List.getElem?_map,List.getElem?_replicate];by_cases hi:i<1000
 ·rw[List.getElem?_range hi,if_pos hi];rfl
 ·rw[List.getElem?_eq_none Y59,if_neg hi];rfl
theorem zi8 {F:Fixed} {k m:Nat} (hk:k<F.calls.length) (hn:(F.calls.map (·.num)).Nodup) (hm:F.calls[k].num=(m:Int)):VI F (k+1)=(VI F k).set m (E Z ((k:Int)+1)):=by
 have htk:F.calls.take (k+1)=F.calls.take k++ [F.calls[k]]:=by
  rw[List.take_add_one,List.getElem?_eq_getElem hk];rfl
 have hfr:=zg3 hk hn;unfold VI;rw[htk];apply List.ext_getElem?;intro i;rw[List.getElem?_map,List.getElem?_set,List.getElem?_map,List.length_map,List.length_range];by_cases hi:i<1000
 ·rw[List.getElem?_range hi];by_cases e:m=i
  ·subst e;have h1:=zcN (F.calls.take k) F.calls[k] (m:Int) (Or.inl (by rw[←hm];exact hfr));rw[if_pos hm,List.length_take] at h1;rw[if_pos rfl,if_pos hi];simp only[Option.map_some];rw[h1,show min k F.calls.length=k by omega];rfl
  ·have hne:F.calls[k].num≠(i:Int):=fun q=>e (by rw[hm] at q;omega);have h1:=zcN (F.calls.take k) F.calls[k] (i:Int) (Or.inr hne);rw[if_neg hne] at h1;rw[if_neg e];simp only[Option.map_some];rw[h1]
 ·rw[List.getElem?_eq_none Y59];by_cases e:m=i
  ·rw[if_pos e,if_neg Y1];rfl
  ·rw[if_neg e];rfl
def wkf (F:Fixed) (t:Bool):List Value:=if t=true then kR (wk0 F,Value.slice none 0 0) else kR wkZ
theorem zjM (F:Fixed) (t:Bool):(wkf F t).length=38:=by cases t<;>rfl
def wkB (n i:Nat):List Bool:=List.replicate i true++List.replicate (n - i) false
theorem zs3 {n i:Nat} (h:i≤n):(wkB n i).length=n:=by simp[wkB];omega
theorem zpD (F:Fixed) (n:Nat):(wkB n 0).flatMap (wkf F)=(List.replicate n wkZ).flatMap kR:=by
 unfold wkB
 rw[List.replicate_zero,List.nil_append,Nat.sub_zero]
 induction n with
 |zero=>rfl
 |succ n ih=>rw[List.replicate_succ,List.replicate_succ,List.flatMap_cons,List.flatMap_cons,ih];rfl
theorem zrj (F:Fixed) (n:Nat):(wkB n n).flatMap (wkf F)=(List.replicate n (wk0 F,Value.slice none 0 0)).flatMap kR:=by
 unfold wkB
 rw[Nat.sub_self,List.replicate_zero,List.append_nil]
 induction n with
 |zero=>rfl
 |succ n ih=>rw[List.replicate_succ,List.replicate_succ,List.flatMap_cons,List.flatMap_cons,ih];rfl
theorem zpz {n i:Nat} (h:i<n):(wkB n i)[i]' Y71=false:=by
 unfold wkB;rw[List.getElem_append_right Y7,List.getElem_replicate]
theorem zrx {n i:Nat} (h:i<n):(wkB n i).set i true=wkB n (i+1):=by
 unfold wkB;rw[List.set_append_right _ _ Y7,List.length_replicate,Nat.sub_self,show n - i=(n - (i+1))+1 by omega,List.replicate_succ,List.set_cons_zero,List.replicate_succ',List.append_assoc];rfl
theorem zp4 (F:Fixed) {n i:Nat} (h:i<n):((wkB n i).flatMap (wkf F))[i*38+4]?=V (E Z 0):=by
 rw[gu (zjM F) (wkB n i) i Y71 4 Y2,zpz h];rfl
theorem zrL (F:Fixed) {n i:Nat} (h:i<n):((wkB n i).flatMap (wkf F)).set (i*38+4) (E Z F.loop)=(wkB n (i+1)).flatMap (wkf F):=by
 rw[jN (zjM F) (wkB n i) i Y71 4 Y2 (E Z F.loop) true (by rw[zpz h];rfl),zrx h]
theorem zkJ {X:World} {F:Fixed} {n k gW:Nat} (h:X.heap[gW]?=V (.cells ((wkB n k).flatMap (wkf F)).toArray 142 (0,0))) (hk:k<n):(X.setCell ⟨gW,k*38+4,O⟩ (E Z F.loop)).heap[gW]?=V (.cells ((wkB n (k+1)).flatMap (wkf F)).toArray 142 (0,0)):=by
 rw[zy h,List.setIfInBounds_toArray,zrL F hk]
theorem zmk (M:zD) (place r0:Int):Zm (Kj M place r0).1:=by
 unfold Kj
 cases kL M.alc M.mem 1 64 with
 |none=>exact VH
 |some g=>
  obtain ⟨home,alc,mem⟩:=g
  simp only
  cases e:gF M.tab home with
  |none=>exact VH
  |some q=>
   obtain ⟨id,tab⟩:=q
   exact zgb e
theorem zp2 (F:Fixed) {cells:Nat} {entry:Int} {w2 wd w14 w15 w16 w17 w18 w19 w20 nP wF:World} {n K th gW C R gr Q gl mb T gt aA go X gc gw A:Nat} {B:Int→Nat} {lv cv pv:Value} {P Rw S:List Value}
  (hn:n=F.workers) (md:zak w2 wd n K th gW C)
  (hl:w14.ownsRow wd.heap.size 111 7 lv F.lib.length (Ze F.lib)) (hc:w14.ownsRow wd.heap.size 125 6 cv F.calls.length (ku F.calls)) (k14:Keeps (fun b=>b=K) wd w14)
  (hp:w15.ownsRow w14.heap.size 111 7 pv F.code.length (Ze F.code)) (k15:Keeps (fun b=>b=K) w14 w15) (k16:Keeps (fun b=>b=K) w15 w16)
  (hR:gJ w17 R gr []) (bR:w16.heap.size≤R∧w16.heap.size≤gr) (k17:Keeps (fun b=>b=K) w16 w17)
  (hQ:WqP w18 Q gl mb B [] 0) (bQ:w17.heap.size≤Q∧w17.heap.size≤gl∧w17.heap.size≤mb) (k18:Keeps (fun b=>b=K) w17 w18)
  (hT:Vh w19 T gt (List.replicate 64 {}) 0) (bT:w18.heap.size≤T∧w18.heap.size≤gt) (k19:Keeps (fun b=>b=K) w18 w19)
  (hO:VE w20 aA go (List.replicate 64 {}) 0) (bO:w19.heap.size≤aA∧w19.heap.size≤go) (k20:Keeps (fun b=>b=K) w19 w20)
  (hL:Vu w20 nP K X gc gw P Rw S (zdB F cells)) (hA:VR nP A X (Sl none 0 0) ⟨bE F+F.wide.toNat+F.narrow.toNat,cells,[]⟩) (bA:w20.heap.size≤A∧X≠A∧gc≠A∧gw≠A)
  (kF:Keeps (fun b=>b=gW) nP wF)
  (hkb:KB wF K (P7 F lv cv pv entry) (VI F F.calls.length) (S14 X A C R Q T aA th gW n))
  (hwk:wF.heap[gW]?=V (.cells ((List.replicate n (wk0 F,Value.slice none 0 0)).flatMap kR).toArray 142 (0,0))):
  zvr wF F { K:=K,X:=X,A:=A,C:=C,R:=R,Q:=Q,T:=T,aA:=aA,th:=th,gW:=gW,lv:=lv,cv:=cv,pv:=pv,tb:=fun _=>0,fb:=fun _ _=>0} cells w2.heap.size wd.heap.size w16.heap.size w17.heap.size w18.heap.size w19.heap.size w20.heap.size entry:=by
 subst hn;have k21:=bN hL.keeps;have Us:=k14.size;have s15:=k15.size;have s16:=k16.size;have s17:=k17.size;have s18:=k18.size;have s19:=k19.size;have s20:=k20.size;have s21:=k21.size;have sF:=kF.size;have Lj:=md.kb.lt;have hgd:=zo md.wk;have htd:=md.tmap.lt;obtain ⟨d1,d2,d3,d4,d5,d6⟩:=md.d;have st: ∀{a b:World},Keeps (fun x=>x=K) a b→ ∀x,x<a.heap.size→x≠K→b.heap[x]?=a.heap[x]?:=fun h x hx hne=>h.block x hx hne;have f21: ∀x,x<nP.heap.size→x≠gW→wF.heap[x]?=nP.heap[x]?:=fun x hx hne=>kF.block x hx hne;have f20: ∀x,x<w20.heap.size→x≠K→x≠gW→wF.heap[x]?=w20.heap[x]?:=fun x hx h1 h2=>(f21 x Y1 h2).trans (st k21 x hx h1);have f19: ∀x,x<w19.heap.size→x≠K→x≠gW→wF.heap[x]?=w19.heap[x]?:=fun x hx h1 h2=>(f20 x Y1 h1 h2).trans (st k20 x hx h1);have f18: ∀x,x<w18.heap.size→x≠K→x≠gW→wF.heap[x]?=w18.heap[x]?:=fun x hx h1 h2=>(f19 x Y1 h1 h2).trans (st k19 x hx h1)
 have f17: ∀x,x<w17.heap.size→x≠K→x≠gW→wF.heap[x]?=w17.heap[x]?:=fun x hx h1 h2=>(f18 x Y1 h1 h2).trans (st k18 x hx h1);have f16: ∀x,x<w16.heap.size→x≠K→x≠gW→wF.heap[x]?=w16.heap[x]?:=fun x hx h1 h2=>(f17 x Y1 h1 h2).trans (st k17 x hx h1);have f15: ∀x,x<w15.heap.size→x≠K→x≠gW→wF.heap[x]?=w15.heap[x]?:=fun x hx h1 h2=>(f16 x Y1 h1 h2).trans (st k16 x hx h1);have f14: ∀x,x<w14.heap.size→x≠K→x≠gW→wF.heap[x]?=w14.heap[x]?:=fun x hx h1 h2=>(f15 x Y1 h1 h2).trans (st k15 x hx h1);have fd: ∀x,x<wd.heap.size→x≠K→x≠gW→wF.heap[x]?=wd.heap[x]?:=fun x hx h1 h2=>(f14 x Y1 h1 h2).trans (st k14 x hx h1);obtain ⟨lX,lgc,lgw⟩:=hL.mem.lt;have lA:=hA.lt;obtain ⟨nX,ngc,ngw⟩:=hL.new;refine ⟨hkb,?_,?_,?_,?_,⟨gc,gw,?_,hL.new,bA.2.1,bA.2.2.1,bA.2.2.2⟩,?_,?_,⟨gr,?_,?_⟩,⟨gl,mb,B,?_,?_⟩,⟨gt,?_,?_⟩,⟨go,?_,?_⟩,?_,hwk,⟨⟨d1,Lj⟩,⟨d2,htd⟩,⟨d3,hgd⟩,d4,d5,d6,⟨by omega,by omega,by omega,by omega,by omega⟩,bA.1⟩⟩
 ·exact za hl fun k e=>by obtain ⟨a,b⟩:=hl.lt k e;exact f14 k b Y1 Y1
 ·exact za hc fun k e=>by obtain ⟨a,b⟩:=hc.lt k e;exact f14 k b Y1 Y1
 ·exact Asm.Vx (za hp fun k e=>by obtain ⟨a,b⟩:=hp.lt k e;exact f15 k b Y1 Y1) Us
 ·intro b hb;rcases hb with hb|hb|hb
  ·have:=(hl.lt b hb).2;show b<w16.heap.size;omega
  ·have:=(hc.lt b hb).2;show b<w16.heap.size;omega
  ·have:=(hp.lt b hb).2;show b<w16.heap.size;omega
 ·exact hL.mem.zk fun b hb=>by rcases hb with rfl|rfl|rfl<;>exact f21 _ Y44 Y1
 ·refine hA.zk fun b hb=>?_;rcases hb with rfl|hb
  ·exact f21 _ lA (by have:=bA.1;omega)
  ·cases hb
 ·obtain ⟨hb,hm,ab,hC,hall⟩:=md.clk;refine ⟨hb,hm,ab,?_,fun b e=>?_⟩
  ·refine hC.zk fun b e=>?_;have hlt:=hC.lt e;have e2:b=C∨b=hb∨b=hm∨b=ab:=by
    rcases e with e|e|e|e|e
    ·exact Or.inl e
    ·exact Or.inr (Or.inr (Or.inr e))
    ·exact Or.inr (Or.inl e)
    ·exact Or.inr (Or.inr (Or.inl e))
    ·cases e
   exact fd b hlt (hall b e2).2.1 (hall b e2).2.2.2
  ·have hlt:b<wd.heap.size:=by
    rcases e with rfl|rfl|rfl|rfl
    ·exact hC.lt (Or.inl rfl)
    ·exact hC.lt (Or.inr (Or.inr (Or.inl rfl)))
    ·exact hC.lt (Or.inr (Or.inr (Or.inr (Or.inl rfl))))
    ·exact hC.lt (Or.inr (Or.inl rfl))
   exact ⟨⟨(hall b e).1,hlt⟩,(hall b e).2⟩
 ·obtain ⟨l1,l2⟩:=hR.lt;exact hR.zk fun b hb=>by rcases hb with rfl|rfl<;>exact f17 _ Y44 Y1 Y1
 ·obtain ⟨l1,l2⟩:=hR.lt;intro b hb;rcases hb with rfl|rfl
  ·exact ⟨bR.1,l1⟩
  ·exact ⟨bR.2,l2⟩
 ·refine hQ.zk fun b hb=>?_;have hlt:=hQ.lt hb;have:w17.heap.size≤b:=by
   rcases hb with (rfl|rfl|⟨s,hs,-⟩) |rfl
   ·exact bQ.1
   ·exact bQ.2.1
   ·cases hs
   ·exact bQ.2.2
  exact f18 b hlt Y1 Y1
 ·intro b hb;rcases hb with rfl|rfl|rfl
  ·exact ⟨bQ.1,hQ.lt (Or.inl (Or.inl rfl))⟩
  ·exact ⟨bQ.2.1,hQ.lt (Or.inl (Or.inr (Or.inl rfl)))⟩
  ·exact ⟨bQ.2.2,hQ.lt (Or.inr rfl)⟩
 ·obtain ⟨l1,l2⟩:=hT.lt;exact hT.zk fun b hb=>by rcases hb with rfl|rfl<;>exact f19 _ Y44 Y1 Y1
 ·obtain ⟨l1,l2⟩:=hT.lt;intro b hb;rcases hb with rfl|rfl
  ·exact ⟨bT.1,l1⟩
  ·exact ⟨bT.2,l2⟩
 ·obtain ⟨l1,l2⟩:=hO.lt;exact hO.zk fun b hb=>by rcases hb with rfl|rfl<;>exact f20 _ Y44 Y1 Y1
 ·obtain ⟨l1,l2⟩:=hO.lt;intro b hb;rcases hb with rfl|rfl
  ·exact ⟨bO.1,l1⟩
  ·exact ⟨bO.2,l2⟩
 ·exact md.tmap.of_block (fd th htd Y1 d6)
end Kn
end Go.Proofs.YtdlpmnmenhojfaaGreatDoor
