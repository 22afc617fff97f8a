/- Part 42 of what the proof stands on: PlSameW. -/
import Derived.Test.YtaangaogmnlljaaGreatDoorP38
set_option linter.unusedVariables false
set_option maxRecDepth 100000
set_option maxHeartbeats 40000000
namespace Go.Proofs.YtaangaogmnlljaaGreatDoor.Kn
open Go.RowKit Go.Maps Asm
variable {u2 u3 u4 u5 u6 u7 u8 u9 u10 u11 u12 u13 u14 u15 u16 u17 u18 u19 u20 u21 u22 u23 u24 u25 u26 u27 u28 u29 u30 u31 u32 u33 u34 u35 u36 u37 u38 u39 u40 u41 u42 u43 u44 u45 u46 u47 u48 u49 u50 u51 u52 u53 u54 u55 u56 u57 u58 u59 u60 u61 u62 u63 u64 u65 u66 u67 u68 u69 u70 u71 u72 u73 u74 u75 u76 u77 u78 u79 u80 u81 u82 u83 u84 u85 u86 u87 u88 u89 u90 u91 u92 u93 u94 u95 u96 u97 u98 u99 u100 u101 u102 u103 u104 u105 u106 u107 u108 u109 u110 u111 u112 u113 u114 u115 u116 u117 u118 u119 u120 u121 u122 u123 u124 u125 u126 u127 u128 u129 u130 u131 u132 u133 u134 u135 u136 u137 u138 u139 u140 u141 u142 u143 u144 u145 u146 u147 u148 u149 u150 u151 u152 u153 u154 u155 u156 u157 u158 u159 u160 u161 u162 u163 u164 u165 u166 u167 u168 u169 u170 u171 u172 u173:Value}
noncomputable def sameBody:Code:=(Tryz.f13.body).getD .skip
def SameOk (F:Fixed) (cells:Nat) (entry:Int) (G:KG) (R:RG) (w0:World) (e:Ending) (w':World):Prop:=e= .returned (.bool true)∧Two F cells entry G R w'∧Keeps (fun b=>b=G.X) w0 w'
section
variable {F:Fixed} {cells:Nat} {entry:Int} {G:KG} {R:RG} {w0 w:World}
theorem kx_below {a b c:World} (h:Keeps (fun i=>i=G.X) a b) (k:Below b.heap.size b c):Keeps (fun i=>i=G.X) a c:=keeps_x h (Keeps.ofBelow k)
set_option maxRecDepth 100000 in
theorem same_l2 (h:Two F cells entry G R w) (hk:Keeps (fun b=>b=G.X) w0 w) (hr:loN F+1≤cells) (hc:cells≤65536) (hw:F.workers≤64)
  (J:Act→World→Prop) (hJ: ∀a w,(tailC 6 sameBody).wp Tryz.prog (bodyPost Tryz.prog Tryz.f13 (SameOk F cells entry G R w0)) a w→J a w):(headC 5 sameBody).wp Tryz.prog (Exit.then J (bodyPost Tryz.prog Tryz.f13 (SameOk F cells entry G R w0))) ⟨#[.pointer (some ⟨G.K,0,none⟩), .pointer (some ⟨R.K,0,none⟩),u2,u3,u4,u5,u6,u7,u8,u9,u10,u11,u12,u13,u14,u15,u16,u17,u18,u19,u20,u21,u22,u23,u24,u25,u26,u27,u28,u29,u30,u31,u32,u33,u34,u35,u36,u37,u38,u39,u40,u41,u42,u43,u44,u45,u46,u47,u48,u49,u50,u51,u52,u53,u54,u55,u56,u57,u58,u59,u60,u61,u62,u63,u64,u65,u66,u67,u68,u69,u70,u71,u72,u73,u74,u75,u76,u77,u78,u79,u80,u81,u82,u83,u84,u85,u86,u87,u88,u89,u90,u91,u92,u93,u94,u95,u96,u97,u98,u99,u100,u101,u102,u103,u104,u105,u106,u107,u108,u109,u110,u111,u112,u113,u114,u115,u116,u117,u118,u119,u120,u121,u122,u123,u124,u125,u126,u127,u128,u129,u130,u131,u132,u133,u134,u135,u136,u137,u138,u139,u140,u141,u142,u143,u144,u145,u146,u147,u148,u149,u150,u151,u152,u153,u154,u155,u156,u157,u158,u159,u160,u161,u162,u163,u164,u165,u166,u167,u168,u169,u170,u171,u172,u173],[]⟩ w:=by
 have HC:=Lib.hid (And.intro hr (And.intro hc hw))
 have H0:=Lib.hid (And.intro h hk)
 have HAsk:=Lib.hid (fun k hk=>asks (entry:=entry) (G:=G) (R:=R) hr hc hw k hk)
 have HNil:=Lib.hid (fun (W:World)=>words_same (w:=W) (b1:=0) (b2:=0) (v1:= .slice none 0 0) (v2:= .slice none 0 0) (l:= []) (row_at0 _ _ _ _) (row_at0 _ _ _ _) (by decide))
 have hkI:(0:Int)≤(F.workers:Int)∧(F.workers:Int)≤64:=by omega
 clear h hk hr hc hw
 conv=>arg 2;whnf
 go_wp2_with fail
 go_loopg [7] (F.workers+2) (fun gg iv wr=> ∃i:Nat,i≤F.workers+2∧gg=F.workers+2 - i∧iv= .int .i64 ((i:Int) - 1)∧Hid (Two F cells entry G R wr∧Keeps (fun b=>b=G.X) w0 wr))
 case atStart=>exact ⟨0,by omega,rfl,rfl,H0⟩
 case round=>
  obtain ⟨i,hi,hgg,rfl,HR⟩:=hrel
  obtain ⟨k,hkk⟩: ∃k:Int,k=(i:Int) - 1:=⟨_,rfl⟩
  rw[←hkk]
  obtain ⟨rv,wv,ho,-,hrw⟩:=HR.out.1.f.obj
  obtain ⟨A,c,rfl⟩:=Asm.own_shape hrw
  have k19:wr.cell? ⟨R.K,19,none⟩=some (.slice A F.workers c):=blk_cell ho 19
  clear ho hrw
  by_cases hlt:i<F.workers+2
  ·have hkl:k≤(F.workers:Int):=by omega
   have hkw:IntKind.i64.wrap (k+1)=((i+1:Nat):Int) - 1:=by rw[IntKind.wrap_i64];omega
   obtain ⟨cc,bb,tt,HA1,HA2,HA3,HA4⟩:=HAsk.out k (by omega)
   have HA:=Lib.hid (And.intro HA1 (And.intro HA2 (And.intro HA3 HA4)))
   have Hg:=Lib.hid (And.intro hgg hlt)
   clear hgg hlt hi hkk HA1 HA2 HA3 HA4
   go_wp2_with fail
   refine (HA.out.1 _ HR.out.1).mono ?_
   rintro e w1 ⟨rfl,hb1⟩
   have H1:=Lib.hid (And.intro (HR.out.1.below hb1) (kx_below HR.out.2 hb1))
   clear hb1 k19
   go_upto_region 15 with fail
   have hba:Below w1.heap.size w1 (w1.alloc (.cells #[.int .u64 0, .int .u64 0, .bool false, .int .i64 cc, .int .i64 0] 131)):=(Below.refl _ _).alloc (Nat.le_refl _) _
   have hza:=heap_alloc_new w1 (.cells #[.int .u64 0, .int .u64 0, .bool false, .int .i64 cc, .int .i64 0] 131)
   generalize hx1:w1.heap.size=x1 at*
   generalize w1.alloc (.cells #[.int .u64 0, .int .u64 0, .bool false, .int .i64 cc, .int .i64 0] 131)=w2 at hba hza ⊢
   rw[←hx1] at hba
   have H2:=Lib.hid (And.intro (H1.out.1.below hba) (And.intro (kx_below H1.out.2 hba) hza))
   clear hba hza hx1 H1
   go_wp2_with fail
   refine (HA.out.2.1 _ H2.out.1).mono ?_
   rintro e w3 ⟨rfl,hb3⟩
   have H3:=Lib.hid (And.intro (H2.out.1.below hb3) (And.intro (kx_below H2.out.2.1 hb3) ((hb3.block _ (blk_in H2.out.2.2)).trans H2.out.2.2)))
   clear hb3 H2
   go_upto_region 16 with fail
   have hba:Below w3.heap.size w3 (w3.alloc (.cells #[.int .u64 0, .int .u64 0, .bool false, .int .i64 cc, .int .i64 0] 131)):=(Below.refl _ _).alloc (Nat.le_refl _) _
   have hza:=heap_alloc_new w3 (.cells #[.int .u64 0, .int .u64 0, .bool false, .int .i64 cc, .int .i64 0] 131)
   generalize hx2:w3.heap.size=x2 at*
   generalize w3.alloc (.cells #[.int .u64 0, .int .u64 0, .bool false, .int .i64 cc, .int .i64 0] 131)=w4 at hba hza ⊢
   rw[←hx2] at hba
   have H4:=Lib.hid (And.intro (H3.out.1.below hba) (And.intro (kx_below H3.out.2.1 hba) (And.intro ((hba.block _ (blk_in H3.out.2.2)).trans H3.out.2.2) hza)))
   clear hba hza hx2 H3
   go_wp2_with fail
   refine (HA.out.2.2.1 _ H4.out.1).mono ?_
   rintro e w5 ⟨rfl,ht5,hk5⟩
   have hX: ∀{b:Nat} {ys:Array Value} {f:Nat×Nat},w4.heap[b]?=some (.cells ys 131 f)→w5.heap[b]?=some (.cells ys 131 f):=fun hb=>kp hk5 hb fun j e=>by
    subst e
    obtain ⟨own,hK⟩:=H4.out.1.k
    obtain ⟨gc,gw,hm,-⟩:=hK.mem
    obtain ⟨t,c,ho⟩:=hm.obj
    exact ⟨_,_,_,ho,by decide⟩
   have H5:=Lib.hid (And.intro ht5 (And.intro (keeps_x H4.out.2.1 hk5) (And.intro (hX H4.out.2.2.1) (hX H4.out.2.2.2))))
   clear ht5 hk5 hX H4
   go_wp2_with fail
   refine (HA.out.2.2.2 _ H5.out.1).mono ?_
   rintro e w6 ⟨rfl,hb6⟩
   have H6:=Lib.hid (And.intro (H5.out.1.below hb6) (And.intro (kx_below H5.out.2.1 hb6) (And.intro ((hb6.block _ (blk_in H5.out.2.2.1)).trans H5.out.2.2.1) ((hb6.block _ (blk_in H5.out.2.2.2)).trans H5.out.2.2.2))))
   clear hb6 H5
   have q0:w6.cell? ⟨x1,0,none⟩=some (.int .u64 0):=blk_cell H6.out.2.2.1 0
   have q1:w6.cell? ⟨x1,1,none⟩=some (.int .u64 0):=blk_cell H6.out.2.2.1 1
   have q2:w6.cell? ⟨x1,2,none⟩=some (.bool false):=blk_cell H6.out.2.2.1 2
   have q3:w6.cell? ⟨x1,3,none⟩=some (.int .i64 cc):=blk_cell H6.out.2.2.1 3
   have q4:w6.cell? ⟨x1,4,none⟩=some (.int .i64 0):=blk_cell H6.out.2.2.1 4
   have z0:w6.cell? ⟨x2,0,none⟩=some (.int .u64 0):=blk_cell H6.out.2.2.2 0
   have z1:w6.cell? ⟨x2,1,none⟩=some (.int .u64 0):=blk_cell H6.out.2.2.2 1
   have z2:w6.cell? ⟨x2,2,none⟩=some (.bool false):=blk_cell H6.out.2.2.2 2
   have z3:w6.cell? ⟨x2,3,none⟩=some (.int .i64 cc):=blk_cell H6.out.2.2.2 3
   have z4:w6.cell? ⟨x2,4,none⟩=some (.int .i64 0):=blk_cell H6.out.2.2.2 4
   have hne:=neq_wkr 0 0 cc 0 false
   go_wp2_with fail
   refine (HNil.out _).mono ?_
   rintro e w7 ⟨rfl,q7,rfl⟩
   have H7:=Lib.hid (And.intro (H6.out.1.drewN q7) (kx_below H6.out.2.1 (dn_below (Below.refl _ _) q7)))
   clear q0 q1 q2 q3 q4 z0 z1 z2 z3 z4 hne H6
   generalize w6.drewN q7=w8 at H7 ⊢
   go_wp2_with fail
   go_roundg (F.workers+2 - (i+1))
   case measure=>have:=Hg.out;omega
   case rel=>exact ⟨i+1,by have:=Hg.out;omega,rfl,by congr 1;omega,H7⟩
  ·obtain rfl:i=F.workers+2:=by omega
   have hkl: ¬k≤(F.workers:Int):=by omega
   clear hgg hlt hi hkk
   go_wp2_with fail
   conv=>arg 2;whnf
   go_wp2_with fail
   go_ret
   exact ⟨rfl,HR.out.1,HR.out.2⟩
set_option maxRecDepth 100000 in
theorem same_l1 (h:Two F cells entry G R w) (hk:Keeps (fun b=>b=G.X) w0 w) (hr:loN F+1≤cells) (hc:cells≤65536) (hw:F.workers≤64) {g c:Nat} (x0:w.cell? ⟨g,0,none⟩=some (.int .u64 64)) (hg:g<w.heap.size)
  (J:Act→World→Prop) (hJ: ∀a w,(tailC 5 sameBody).wp Tryz.prog (bodyPost Tryz.prog Tryz.f13 (SameOk F cells entry G R w0)) a w→J a w):(headC 4 sameBody).wp Tryz.prog (Exit.then J (bodyPost Tryz.prog Tryz.f13 (SameOk F cells entry G R w0))) ⟨#[.pointer (some ⟨G.K,0,none⟩), .pointer (some ⟨R.K,0,none⟩),u2,u3,u4, .slice (some ⟨g,0,none⟩) 1 c,u6,u7,u8,u9,u10,u11,u12,u13,u14,u15,u16,u17,u18,u19,u20,u21,u22,u23,u24,u25,u26,u27,u28,u29,u30,u31,u32,u33,u34,u35,u36,u37,u38,u39,u40,u41,u42,u43,u44,u45,u46,u47,u48,u49,u50,u51,u52,u53,u54,u55,u56,u57,u58,u59,u60,u61,u62,u63,u64,u65,u66,u67,u68,u69,u70,u71,u72,u73,u74,u75,u76,u77,u78,u79,u80,u81,u82,u83,u84,u85,u86,u87,u88,u89,u90,u91,u92,u93,u94,u95,u96,u97,u98,u99,u100,u101,u102,u103,u104,u105,u106,u107,u108,u109,u110,u111,u112,u113,u114,u115,u116,u117,u118,u119,u120,u121,u122,u123,u124,u125,u126,u127,u128,u129,u130,u131,u132,u133,u134,u135,u136,u137,u138,u139,u140,u141,u142,u143,u144,u145,u146,u147,u148,u149,u150,u151,u152,u153,u154,u155,u156,u157,u158,u159,u160,u161,u162,u163,u164,u165,u166,u167,u168,u169,u170,u171,u172,u173],[]⟩ w:=by
 have HC:=Lib.hid (And.intro hr (And.intro hc hw))
 have HT0:=Lib.hid (And.intro (h.below (bel_dr (Below.refl _ _))) (kx_below hk (bel_dr (Below.refl _ _))))
 have HS0:Hid (w.drew.cell? ⟨g,0,none⟩=some (.int .u64 64)∧g<w.drew.heap.size):=Lib.hid ⟨x0,hg⟩
 have HFr:Hid (∀W,Two F cells entry G R W→Calls Tryz.prog 53 #[.pointer (some ⟨G.K,0,none⟩), .int .u64 64] W fun e w'=> ∃v,e= .returned v∧w'.ownsRow W.heap.size 3 1 v 1 [.int .i64 entry]∧Below W.heap.size W w'):=Lib.hid fun W h=>by
  obtain ⟨own,hK⟩:=h.k
  exact kframes0 hK run64
 have HPl:Hid (∀W,Two F cells entry G R W→Calls Tryz.prog 54 #[.pointer (some ⟨R.K,0,none⟩), .int .u64 64] W fun e w'=> ∃v,e= .returned v∧w'.ownsRow W.heap.size 3 1 v 1 [.int .i64 entry]∧Below W.heap.size W w'):=Lib.hid fun W h=>rplaces0 h.f
 clear h hk hr hc hw hg
 conv=>arg 2;whnf
 go_wp2_with fail
 refine wp_loop_rounds 2 ?_
 rw[rounds_succ]
 go_wp2_with fail
 go_region_held3 (fun W=>W.cell? ⟨g,0,none⟩=some (.int .u64 64))
  (first|with_reducible exact x0|exact HS7.out|exact HS6.out.1|exact HS5.out.1|exact HS0.out.1)
  (first
   |(go_at_call 53;refine (HFr.out _ HT0.out.1).mono ?_;rintro e w5 ⟨v5,rfl,r5,b5⟩;have HT5:=Lib.hid (And.intro (HT0.out.1.below b5) (kx_below HT0.out.2 b5));have HS5:=Lib.hid (And.intro ((b5.cell (p:=⟨g,0,none⟩) HS0.out.2).trans HS0.out.1) (Nat.lt_of_lt_of_le HS0.out.2 b5.size));have HR5:=Lib.hid r5;obtain ⟨A5,c5,rfl⟩:=Asm.own_shape r5;clear r5 b5 x0)
   |(go_at_call 54;refine (HPl.out _ HT5.out.1).mono ?_;rintro e w6 ⟨v6,rfl,r6,b6⟩;have HT6:=Lib.hid (And.intro (HT5.out.1.below b6) (kx_below HT5.out.2 b6));have HS6:=Lib.hid (And.intro ((b6.cell (p:=⟨g,0,none⟩) HS5.out.2).trans HS5.out.1) (Nat.lt_of_lt_of_le HS5.out.2 b6.size));have HR6:=Lib.hid (And.intro (ownsRow_of_block HR5.out fun b e=>b6.block b (HR5.out.lt b e).2) r6);obtain ⟨A6,c6,rfl⟩:=Asm.own_shape r6;clear r6 b6)
   |(go_at_call 52;refine (ints_same (l:= [entry]) HR6.out.1 HR6.out.2 (by simp)).mono ?_;rintro e w7 ⟨rfl,q7,rfl⟩;have HT7:=Lib.hid (And.intro (HT6.out.1.drewN q7) (kx_below HT6.out.2 (dn_below (Below.refl _ _) q7)));have HS7:Hid ((w6.drewN q7).cell? ⟨g,0,none⟩=some (.int .u64 64)):=Lib.hid HS6.out.1))
 all_goals
  generalize w6.drewN q7=w8 at HT7 ⊢
  go_wp2_with fail
  rw[rounds_succ]
  go_wp2_with fail
  conv=>arg 2;whnf
  refine wp_seq_k (fun J hJ=>?_)
  exact same_l2 HT7.out.1 HT7.out.2 HC.out.1 HC.out.2.1 HC.out.2.2 _ hJ
set_option maxRecDepth 100000 in
theorem same_s4 (h:Two F cells entry G R w) (hk:Keeps (fun b=>b=G.X) w0 w) (hr:loN F+1≤cells) (hc:cells≤65536) (hw:F.workers≤64) {g c B:Nat} (hl:w.ownsRow B 100 7 (.slice (some ⟨g,0,none⟩) 1 c) 1 (thrC [thr0 (loN F)]))
  (J:Act→World→Prop) (hJ: ∀a w,(tailC 4 sameBody).wp Tryz.prog (bodyPost Tryz.prog Tryz.f13 (SameOk F cells entry G R w0)) a w→J a w):(headC 3 sameBody).wp Tryz.prog (Exit.then J (bodyPost Tryz.prog Tryz.f13 (SameOk F cells entry G R w0))) ⟨#[.pointer (some ⟨G.K,0,none⟩), .pointer (some ⟨R.K,0,none⟩),u2,u3,u4, .slice (some ⟨g,0,none⟩) 1 c,u6,u7,u8,u9,u10,u11,u12,u13,u14,u15,u16,u17,u18,u19,u20,u21,u22,u23,u24,u25,u26,u27,u28,u29,u30,u31,u32,u33,u34,u35,u36,u37,u38,u39,u40,u41,u42,u43,u44,u45,u46,u47,u48,u49,u50,u51,u52,u53,u54,u55,u56,u57,u58,u59,u60,u61,u62,u63,u64,u65,u66,u67,u68,u69,u70,u71,u72,u73,u74,u75,u76,u77,u78,u79,u80,u81,u82,u83,u84,u85,u86,u87,u88,u89,u90,u91,u92,u93,u94,u95,u96,u97,u98,u99,u100,u101,u102,u103,u104,u105,u106,u107,u108,u109,u110,u111,u112,u113,u114,u115,u116,u117,u118,u119,u120,u121,u122,u123,u124,u125,u126,u127,u128,u129,u130,u131,u132,u133,u134,u135,u136,u137,u138,u139,u140,u141,u142,u143,u144,u145,u146,u147,u148,u149,u150,u151,u152,u153,u154,u155,u156,u157,u158,u159,u160,u161,u162,u163,u164,u165,u166,u167,u168,u169,u170,u171,u172,u173],[]⟩ w:=by
 have HC:=Lib.hid (And.intro hr (And.intro hc hw))
 obtain ⟨rv,wv,ho⟩:=h.f.kcell
 obtain ⟨gv,ro,rr⟩:=h.f.ring
 obtain ⟨rg,rc,rfl,-,-⟩:=rrow1_at rr
 have k16:w.cell? ⟨R.K,16,none⟩=some (.pointer (some ⟨R.T,0,none⟩)):=blk_cell ho 16
 have k15:w.cell? ⟨R.K,15,none⟩=some (.pointer (some ⟨R.R,0,none⟩)):=blk_cell ho 15
 have r0:w.cell? ⟨R.R,0,none⟩=some (.slice (some ⟨rg,0,none⟩) 1 rc):=blk_cell ro 0
 have HS:Hid (∀W,Below w.heap.size w W→W.cell? ⟨R.K,16,none⟩=some (.pointer (some ⟨R.T,0,none⟩))∧W.cell? ⟨R.K,15,none⟩=some (.pointer (some ⟨R.R,0,none⟩))∧W.cell? ⟨R.R,0,none⟩=some (.slice (some ⟨rg,0,none⟩) 1 rc)):=Lib.hid fun W b=>⟨(b.cell (p:=⟨R.K,16,none⟩) (blk_in ho)).trans k16,(b.cell (p:=⟨R.K,15,none⟩) (blk_in ho)).trans k15,(b.cell (p:=⟨R.R,0,none⟩) (blk_in ro)).trans r0⟩
 have HT:Hid (∀W,Below w.heap.size w W→Two F cells entry G R W):=Lib.hid fun W b=>h.below b
 have HLn:Hid (∀W,Below w.heap.size w W→W.ownsRow B 100 7 (.slice (some ⟨g,0,none⟩) 1 c) 1 (thrC [thr0 (loN F)])∧W.ownsRow 0 53 1 (.slice (some ⟨rg,0,none⟩) 1 rc) 1 [.int .u64 64]):=Lib.hid fun W b=>⟨ownsRow_of_block hl fun k e=>b.block k (hl.lt k e).2,ownsRow_of_block rr fun k e=>b.block k (rr.lt k e).2⟩
 have HRg:Hid (∀W,Two F cells entry G R W→Calls Tryz.prog 47 #[.pointer (some ⟨G.K,0,none⟩)] W fun e w'=> ∃v,e= .returned v∧w'.ownsRow W.heap.size 53 1 v 1 [.int .u64 64]∧Below W.heap.size W w'):=Lib.hid fun W h=>by
  obtain ⟨own,hK⟩:=h.k
  exact kring_any hK (Nat.le_refl 1)
 have HWt:Hid (∀W,Two F cells entry G R W→Calls Tryz.prog 49 #[.pointer (some ⟨G.K,0,none⟩)] W fun e w'=>e= .returned (.slice none 0 0)∧W=w'):=Lib.hid fun W h=>by
  obtain ⟨own,hK⟩:=h.k
  exact kwaiting0 hK rfl
 have HHd:Hid (∀W,Two F cells entry G R W→Calls Tryz.prog 25 #[.pointer (some ⟨G.K,0,none⟩)] W fun e w'=>e= .returned (.slice none 0 0)∧Below W.heap.size W w'):=Lib.hid fun W h=>by
  obtain ⟨own,hK⟩:=h.k
  exact handles_any hK fun r hr=>by rw[show r={} from (List.mem_replicate.1 hr).2]
 have HAl:Hid (∀W,Two F cells entry G R W→Calls Tryz.prog 45 #[.pointer (some ⟨R.T,0,none⟩)] W fun e w'=> ∃v,e= .returned v∧w'.ownsRow W.heap.size 100 7 v 1 (thrC [thr0 (loN F)])∧Below W.heap.size W w'):=Lib.hid fun W h=>rtall_any h.f.tab
 have H0:=Lib.hid (And.intro hk (hl.lt g rfl).2)
 have HB0:Hid (Below w.heap.size w w.drew):=Lib.hid (bel_dr (Below.refl _ _))
 have HNil:=Lib.hid (fun (W:World)=>words_same (w:=W) (b1:=0) (b2:=0) (v1:= .slice none 0 0) (v2:= .slice none 0 0) (l:= []) (row_at0 _ _ _ _) (row_at0 _ _ _ _) (by decide))
 clear h hk hr hc hw hl ho ro rr
 conv=>arg 2;whnf
 go_wp2_with fail
 go_region_held3 (fun W=>W.cell? ⟨R.K,16,none⟩=some (.pointer (some ⟨R.T,0,none⟩))∧W.cell? ⟨R.K,15,none⟩=some (.pointer (some ⟨R.R,0,none⟩))∧W.cell? ⟨R.R,0,none⟩=some (.slice (some ⟨rg,0,none⟩) 1 rc))
  (first|with_reducible exact ⟨k16,k15,r0⟩ |exact HS.out _ HBg.out|exact HS.out _ HBf.out|exact HS.out _ HBd.out|exact HS.out _ HBc.out|exact HS.out _ HBb.out|exact HS.out _ HBa.out|exact HS.out _ HB0.out)
  (first
   |(go_at_call 45;refine (HAl.out _ (HT.out _ HB0.out)).mono ?_;rintro e wa ⟨va,rfl,ra,ba⟩;have HBa:=Lib.hid (HB0.out.trans (ba.mono HB0.out.size));have HRa:=Lib.hid ra;obtain ⟨Aa,ca,rfl⟩:=Asm.own_shape ra;clear ra ba k16 k15 r0)
   |(go_at_call 44;refine (threads_same (l:= [thr0 (loN F)]) (HLn.out _ HBa.out).1 HRa.out (by simp)).mono ?_;rintro e wb ⟨rfl,qb,rfl⟩;have HBb:=Lib.hid (HBa.out.trans (dn_below (Below.refl _ _) qb)))
   |(go_at_call 47;refine (HRg.out _ (HT.out _ HBb.out)).mono ?_;rintro e wc ⟨vc,rfl,rcc,bc⟩;have HBc:=Lib.hid (HBb.out.trans (bc.mono HBb.out.size));have HRc:=Lib.hid rcc;obtain ⟨Ac,cc,rfl⟩:=Asm.own_shape rcc;clear rcc bc)
   |(go_at_call 46;refine (words_same (l:= [64]) HRc.out (HLn.out _ HBc.out).2 (by simp)).mono ?_;rintro e wd ⟨rfl,qd,rfl⟩;have HBd:=Lib.hid (HBc.out.trans (dn_below (Below.refl _ _) qd));clear HRc)
   |(go_at_call 49;refine (HWt.out _ (HT.out _ HBd.out)).mono ?_;rintro e we ⟨rfl,rfl⟩)
   |(go_at_call 50;refine (rwaiting0 (HT.out _ HBd.out).f).mono ?_;rintro e we ⟨rfl,rfl⟩)
   |(go_at_call 48;refine (waiters_nil _).mono ?_;rintro e we ⟨rfl,rfl⟩)
   |(go_at_call 25;refine (HHd.out _ (HT.out _ HBd.out)).mono ?_;rintro e wf ⟨rfl,bf⟩;have HBf:=Lib.hid (HBd.out.trans (bf.mono HBd.out.size));clear bf)
   |(go_at_call 51;refine (rhandles0 (HT.out _ HBf.out).f).mono ?_;rintro e wg ⟨rfl,rfl⟩)
   |(go_at_call 46;refine (HNil.out _).mono ?_;rintro e wg ⟨rfl,qg,rfl⟩;have HBg:=Lib.hid (HBf.out.trans (dn_below (Below.refl _ _) qg))))
 all_goals
  have HT7:=Lib.hid (And.intro (HT.out _ HBg.out) (kx_below H0.out.1 HBg.out))
  have hcl:=(HLn.out _ HBg.out).1
  have x0:(wf.drewN qg).cell? ⟨g,0,none⟩=some (.int .u64 64):=by
   rcases row_at hcl with ⟨-,-,h3⟩ |⟨g',c',e',hcc⟩
   ·simp[thrC,thr7] at h3
   ·injection e' with e1 _ e3
    injection e1 with e1
    injection e1 with e1
    subst e1
    have:=hcc 0 (.int .u64 64) (by rfl)
    rwa[Addr.add_lit,Nat.zero_add] at this
  have hg:=(hcl.lt g rfl).2
  generalize wf.drewN qg=w8 at HT7 x0 hg ⊢
  clear hcl
  go_wp2_with fail
  conv=>arg 2;whnf
  refine wp_seq_k (fun J hJ=>?_)
  exact same_l1 HT7.out.1 HT7.out.2 HC.out.1 HC.out.2.1 HC.out.2.2 x0 hg _ hJ
set_option maxRecDepth 100000 in
theorem same_s1 (h:Two F cells entry G R w) (hk:Keeps (fun b=>b=G.X) w0 w) (hr:loN F+1≤cells) (hc:cells≤65536) (hw:F.workers≤64)
  (J:Act→World→Prop) (hJ: ∀a w,(tailC 2 sameBody).wp Tryz.prog (bodyPost Tryz.prog Tryz.f13 (SameOk F cells entry G R w0)) a w→J a w):(headC 1 sameBody).wp Tryz.prog (Exit.then J (bodyPost Tryz.prog Tryz.f13 (SameOk F cells entry G R w0))) ⟨#[.pointer (some ⟨G.K,0,none⟩), .pointer (some ⟨R.K,0,none⟩),u2,u3,u4,u5,u6,u7,u8,u9,u10,u11,u12,u13,u14,u15,u16,u17,u18,u19,u20,u21,u22,u23,u24,u25,u26,u27,u28,u29,u30,u31,u32,u33,u34,u35,u36,u37,u38,u39,u40,u41,u42,u43,u44,u45,u46,u47,u48,u49,u50,u51,u52,u53,u54,u55,u56,u57,u58,u59,u60,u61,u62,u63,u64,u65,u66,u67,u68,u69,u70,u71,u72,u73,u74,u75,u76,u77,u78,u79,u80,u81,u82,u83,u84,u85,u86,u87,u88,u89,u90,u91,u92,u93,u94,u95,u96,u97,u98,u99,u100,u101,u102,u103,u104,u105,u106,u107,u108,u109,u110,u111,u112,u113,u114,u115,u116,u117,u118,u119,u120,u121,u122,u123,u124,u125,u126,u127,u128,u129,u130,u131,u132,u133,u134,u135,u136,u137,u138,u139,u140,u141,u142,u143,u144,u145,u146,u147,u148,u149,u150,u151,u152,u153,u154,u155,u156,u157,u158,u159,u160,u161,u162,u163,u164,u165,u166,u167,u168,u169,u170,u171,u172,u173],[]⟩ w:=by
 have HC:=Lib.hid (And.intro hr (And.intro hc hw))
 obtain ⟨rv,wv,ho⟩:=h.f.kcell
 have k11:w.cell? ⟨R.K,11,none⟩=some (.int .u64 0):=blk_cell ho 11
 have k21:w.cell? ⟨R.K,21,none⟩=some (.int .i64 0):=blk_cell ho 21
 have k20:w.cell? ⟨R.K,20,none⟩=some (.int .i64 F.base):=blk_cell ho 20
 have k10:w.cell? ⟨R.K,10,none⟩=some (.pointer (some ⟨R.A,0,none⟩)):=blk_cell ho 10
 have HS:Hid (∀W,Below w.heap.size w W→W.cell? ⟨R.K,11,none⟩=some (.int .u64 0)∧W.cell? ⟨R.K,21,none⟩=some (.int .i64 0)∧W.cell? ⟨R.K,20,none⟩=some (.int .i64 F.base)∧W.cell? ⟨R.K,10,none⟩=some (.pointer (some ⟨R.A,0,none⟩))):=Lib.hid fun W b=>⟨(b.cell (p:=⟨R.K,11,none⟩) (blk_in ho)).trans k11,(b.cell (p:=⟨R.K,21,none⟩) (blk_in ho)).trans k21,(b.cell (p:=⟨R.K,20,none⟩) (blk_in ho)).trans k20,(b.cell (p:=⟨R.K,10,none⟩) (blk_in ho)).trans k10⟩
 have HT:Hid (∀W,Below w.heap.size w W→Two F cells entry G R W):=Lib.hid fun W b=>h.below b
 have HNow:Hid (∀W,Two F cells entry G R W→Calls Tryz.prog 40 #[.pointer (some ⟨G.K,0,none⟩)] W fun e w'=>e= .returned (.int .u64 0)∧w'=W):=Lib.hid fun W h=>by
  obtain ⟨own,hK⟩:=h.k
  exact know_any hK
 have HEn:Hid (∀W,Two F cells entry G R W→Calls Tryz.prog 41 #[.pointer (some ⟨G.K,0,none⟩)] W fun e w'=>e= .returned (.int .i64 0)∧w'=W):=Lib.hid fun W h=>by
  obtain ⟨own,hK⟩:=h.k
  exact kentries_any hK
 have HBs:Hid (∀W,Two F cells entry G R W→Calls Tryz.prog 42 #[.pointer (some ⟨G.K,0,none⟩)] W fun e w'=>e= .returned (.int .i64 F.base)∧w'=W):=Lib.hid fun W h=>by
  obtain ⟨own,hK⟩:=h.k
  exact kbase_any hK
 have HUs:Hid (∀W,Two F cells entry G R W→Calls Tryz.prog 26 #[.pointer (some ⟨G.K,0,none⟩)] W fun e w'=>e= .returned (.int .i64 1)∧Below W.heap.size W w'):=Lib.hid fun W h=>by
  obtain ⟨own,hK⟩:=h.k
  exact kused_any hK (by show (1:Nat)≤_;decide) (by show (1:Nat)≤_;decide)
 have HTh:Hid (∀W,Two F cells entry G R W→Calls Tryz.prog 36 #[.pointer (some ⟨G.K,0,none⟩)] W fun e w'=> ∃v,e= .returned v∧w'.ownsRow W.heap.size 100 7 v 1 (thrC [thr0 (loN F)])∧Below W.heap.size W w'):=Lib.hid fun W h=>by
  obtain ⟨own,hK⟩:=h.k
  exact kthreads_any hK
 have H0:=Lib.hid hk
 have HB0:Hid (Below w.heap.size w w.drew):=Lib.hid (bel_dr (Below.refl _ _))
 clear h hk hr hc hw ho
 generalize F.base=bs at*
 conv=>arg 2;whnf
 go_wp2_with fail
 go_region_held3 (fun W=>W.cell? ⟨R.K,11,none⟩=some (.int .u64 0)∧W.cell? ⟨R.K,21,none⟩=some (.int .i64 0)∧W.cell? ⟨R.K,20,none⟩=some (.int .i64 bs)∧W.cell? ⟨R.K,10,none⟩=some (.pointer (some ⟨R.A,0,none⟩)))
  (first|with_reducible exact ⟨k11,k21,k20,k10⟩ |exact HS.out _ HBa.out|exact HS.out _ HB0.out)
  (first
   |(go_at_call 40;refine (HNow.out _ (HT.out _ HB0.out)).mono ?_;rintro e wa ⟨rfl,rfl⟩)
   |(go_at_call 41;refine (HEn.out _ (HT.out _ HB0.out)).mono ?_;rintro e wa ⟨rfl,rfl⟩)
   |(go_at_call 42;refine (HBs.out _ (HT.out _ HB0.out)).mono ?_;rintro e wa ⟨rfl,rfl⟩)
   |(go_at_call 26;refine (HUs.out _ (HT.out _ HB0.out)).mono ?_;rintro e wa ⟨rfl,ba⟩;have HBa:=Lib.hid (HB0.out.trans (ba.mono HB0.out.size));clear ba)
   |(go_at_call 43;refine (rused0 (HT.out _ HBa.out).f).mono ?_;rintro e wb ⟨rfl,rfl⟩))
 all_goals
  have HT7:=Lib.hid (And.intro (HT.out _ HBa.out) (kx_below H0.out HBa.out))
  go_wp2_with fail
  conv=>arg 2;whnf
  refine wp_seq_k (fun J2 hJ2=>?_)
  have hJ3: ∀a w,(tailC 3 sameBody).wp Tryz.prog (bodyPost Tryz.prog Tryz.f13 (SameOk F cells entry G R w0)) a w→J2 a w:=hJ2
  clear hJ2
  go_wp2_with fail
  refine (HTh.out _ HT7.out.1).mono ?_
  rintro e wc ⟨v,rfl,hrow,hb⟩
  obtain ⟨g,c,rfl⟩: ∃g c,v= .slice (some ⟨g,0,none⟩) 1 c:=by
   rcases row_at hrow with ⟨-,-,h3⟩ |⟨g,c,rfl,-⟩
   ·simp[thrC,thr7] at h3
   ·exact ⟨g,c,rfl⟩
  have HT8:=Lib.hid (And.intro (HT7.out.1.below hb) (And.intro (kx_below HT7.out.2 hb) hrow))
  clear hrow hb
  go_wp2_with fail
  conv=>arg 2;whnf
  refine wp_seq_k (fun J hJ=>?_)
  exact same_s4 HT8.out.1 HT8.out.2.1 HC.out.1 HC.out.2.1 HC.out.2.2 HT8.out.2.2 _ hJ
set_option maxRecDepth 100000 in
theorem same_any (h:Two F cells entry G R w) (hr:loN F+1≤cells) (hc:cells≤65536) (hw:F.workers≤64):Calls Tryz.prog 13 #[.pointer (some ⟨G.K,0,none⟩), .pointer (some ⟨R.K,0,none⟩)] w (SameOk F cells entry G R w):=by
 have H:=Lib.hid h
 have hk:=Keeps.refl (fun b=>b=G.X) w
 have HK:=Lib.hid hk
 clear h hk
 go_enter Tryz.func13,Tryz.ntmps13
 refine wp_seq_k (fun J2 hJ2=>?_)
 have hJ3: ∀a w',(tailC 1 sameBody).wp Tryz.prog (bodyPost Tryz.prog Tryz.f13 (SameOk F cells entry G R w)) a w'→J2 a w':=hJ2
 clear hJ2
 go_wp2_with fail
 conv=>arg 2;whnf
 refine wp_seq_k (fun J hJ=>?_)
 exact same_s1 H.out HK.out hr hc hw _ hJ
end
end Go.Proofs.YtaangaogmnlljaaGreatDoor.Kn
