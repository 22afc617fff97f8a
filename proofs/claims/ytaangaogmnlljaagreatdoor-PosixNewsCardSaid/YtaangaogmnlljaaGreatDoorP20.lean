/- Part 20 of what the proof stands on: RdNewT2, RdNewT1, RdNewT0, KnMayF, LibAwk, RdFreV, RdDeck. -/
import Derived.Test.YtaangaogmnlljaaGreatDoorP14
import Derived.Test.YtaangaogmnlljaaGreatDoorP15
import Derived.Test.YtaangaogmnlljaaGreatDoorP16
import Derived.Test.YtaangaogmnlljaaGreatDoorP17
set_option linter.unusedVariables false
set_option maxRecDepth 100000
set_option maxHeartbeats 40000000
namespace Go.Proofs.YtaangaogmnlljaaGreatDoor.Kn
open Go.RowKit Go.Maps Asm
variable {u0 u1 u2 u6 u7 u8 u9 u11 u12 u13 u14 u15 u16 u17 u18 u19 u20 u21 u22 u23 u24 u25 u26 u27 u28 u29 u30 u31 u32 u33 u34 u35 u36 u37 u38 u39 u40 u41 u42 u43 u44 u45 u46 u47 u48 u49 u50 u51 u52 u53 u54 u55 u56 u57 u58 u59 u60 u61 u62 u63 u64 u65 u66 u67 u68 u69 u70 u71 u72 u73 u74 u75 u76 u77 u78 u79 u80 u81 u82 u83 u84 u85 u86 u87 u88 u89 u90 u91 u92 u93 u94 u95 u96 u97 u98 u99 u100 u101 u102 u103 u104 u105 u106 u107 u108 u109 u110 u111 u112 u113 u114 u115 u116 u117 u118 u119 u120 u121 u122 u123 u124 u125 u126 u127 u128 u129 u130 u131 u132 u133 u134 u135 u136 u137 u138 u139 u140 u141 u142 u143 u144 u145 u146 u147 u148 u149 u150 u151 u152 u153 u154 u155 u156 u157 u158 u159 u160 u161 u162 u163 u164 u165 u166 u167 u168 u169 u170 u171 u172 u173 u174 u175 u176 u177 u178 u179 u180 u181 u182 u183 u184 u185 u186 u187 u188 u189 u190 u191 u192 u193 u194 u195 u196 u197 u198 u199 u200 u201 u202 u203 u204 u205 u206 u207 u208 u209 u210 u211 u212 u213 u214 u215 u216 u217 u218 u219 u220 u221 u222 u223 u224 u225 u226 u227 u228 u229 u230 u231 u232 u233 u234 u235 u236 u237 u238 u239 u240 u241 u242 u243 u244 u245 u246 u247 u248 u249 u250 u251 u252 u253 u254 u255 u256 u257 u258 u259 u260 u261 u262 u263 u264 u265 u266 u267 u268 u269 u270 u271 u272 u273 u274 u275 u276 u277 u278 u279 u280 u281 u282 u283 u284 u285 u286 u287 u288:Value}
set_option maxRecDepth 100000 in
theorem rdnew_t3' {w0 w:World} {F:Fixed} {cells:Nat} {entry:Int} {b0 b1 b2 K X gw gh A R Q T gt O go gk:Nat} {lv cv pv:Value} {kb:Nat→Nat} {S:List (Nat×Obj)} {m0:Mem}
  (h:WL w0 w F cells entry K X gw gh lv cv pv (ptrV A) (ptrV Q) (ptrV R) (ptrV T) (ptrV O) (.slice none 0 0) S w.heap.size m0 0 kb) (hm0:decksL m0 F.workers F.workers=laidM F cells) (hlen:17+8*F.workers≤m0.hs.length)
  (bx:Boxes S b0 b1 b2 F cells entry) (md:Made S F cells X A R Q T gt O go gk) (hw:1≤F.workers∧F.workers≤64) (hroom:loN F+1≤cells) (hcells:cells≤65536) (hlo:w0.heap.size≤A∧w0.heap.size≤R∧w0.heap.size≤gt)
  :(tailC 17 newBody).wp Tryz.prog (bodyPost Tryz.prog Tryz.f31 (NewOk w0 F cells entry)) ⟨#[u0,u1,u2, .pointer (some ⟨b0,0,none⟩), .pointer (some ⟨b1,0,none⟩), .pointer (some ⟨b2,0,none⟩),u6,u7,u8,u9, .pointer (some ⟨K,0,none⟩),u11,u12,u13,u14,u15,u16,u17,u18,u19,u20,u21,u22,u23,u24,u25,u26,u27,u28,u29,u30,u31,u32,u33,u34,u35,u36,u37,u38,u39,u40,u41,u42,u43,u44,u45,u46,u47,u48,u49,u50,u51,u52,u53,u54,u55,u56,u57,u58,u59,u60,u61,u62,u63,u64,u65,u66,u67,u68,u69,u70,u71,u72,u73,u74,u75,u76,u77,u78,u79,u80,u81,u82,u83,u84,u85,u86,u87,u88,u89,u90,u91,u92,u93,u94,u95,u96,u97,u98,u99,u100,u101,u102,u103,u104,u105,u106,u107,u108,u109,u110,u111,u112,u113,u114,u115,u116,u117,u118,u119,u120,u121,u122,u123,u124,u125,u126,u127,u128,u129,u130,u131,u132,u133,u134,u135,u136,u137,u138,u139,u140,u141,u142,u143,u144,u145,u146,u147,u148,u149,u150,u151,u152,u153,u154,u155,u156,u157,u158,u159,u160,u161,u162,u163,u164,u165,u166,u167,u168,u169,u170,u171,u172,u173,u174,u175,u176,u177,u178,u179,u180,u181,u182,u183,u184,u185,u186,u187,u188,u189,u190,u191,u192,u193,u194,u195,u196,u197,u198,u199,u200,u201,u202,u203,u204,u205,u206,u207,u208,u209,u210,u211,u212,u213,u214,u215,u216,u217,u218,u219,u220,u221,u222,u223,u224,u225,u226,u227,u228,u229,u230,u231,u232,u233,u234,u235,u236,u237,u238,u239,u240,u241,u242,u243,u244,u245,u246,u247,u248,u249,u250,u251,u252,u253,u254,u255,u256,u257,u258,u259,u260,u261,u262,u263,u264,u265,u266,u267,u268,u269,u270,u271,u272,u273,u274,u275,u276,u277,u278,u279,u280,u281,u282,u283,u284,u285,u286,u287,u288],[]⟩ w:=by
 conv=>arg 2;whnf
 refine wp_seq_k (fun J hJ=>?_)
 exact rdnew_t3 h hm0 hlen bx md hw hroom hcells hlo J hJ
set_option maxRecDepth 100000 in
theorem rdnew_t2b {w0 w:World} {F:Fixed} {cells:Nat} {entry:Int} {b0 b1 b2 K X gw gh A R Q T gt:Nat} {lv cv pv:Value} {S:List (Nat×Obj)} {m0:Mem}
  (h:NM w0 w K F lv cv pv ((K,kO F cells entry lv cv pv (ptrV X) (ptrV A) (ptrV Q) (ptrV R) (ptrV T) (.pointer none) (.slice none 0 0) (.slice none 0 0))::S) X gw gh m0) (hm0:decksL m0 F.workers F.workers=laidM F cells) (hlen:17+8*F.workers≤m0.hs.length)
  (bx:Boxes S b0 b1 b2 F cells entry) (md: ∀O go gk,Made ([(O,Obj.cells #[.slice (some ⟨go,0,none⟩) 64 64, .slice (some ⟨gk,0,none⟩) 64 64] 355 (0,0)),(go,Obj.cells (robjC (List.replicate 64 {})).toArray 277 (0,0)),(gk,Obj.cells (i64A ((List.replicate 64 ({}:ORow)).map (·.times))) 3 (0,0))]++S) F cells X A R Q T gt O go gk) (hw:1≤F.workers∧F.workers≤64) (hroom:loN F+1≤cells) (hcells:cells≤65536) (hlo:w0.heap.size≤A∧w0.heap.size≤R∧w0.heap.size≤gt)
  (J:Act→World→Prop) (hJ: ∀a w,(tailC 17 newBody).wp Tryz.prog (bodyPost Tryz.prog Tryz.f31 (NewOk w0 F cells entry)) a w→J a w):(headC 16 newBody).wp Tryz.prog (Exit.then J (bodyPost Tryz.prog Tryz.f31 (NewOk w0 F cells entry))) ⟨#[u0,u1,u2, .pointer (some ⟨b0,0,none⟩), .pointer (some ⟨b1,0,none⟩), .pointer (some ⟨b2,0,none⟩),u6,u7,u8,u9, .pointer (some ⟨K,0,none⟩),u11,u12,u13,u14,u15,u16,u17,u18,u19,u20,u21,u22,u23,u24,u25,u26,u27,u28,u29,u30,u31,u32,u33,u34,u35,u36,u37,u38,u39,u40,u41,u42,u43,u44,u45,u46,u47,u48,u49,u50,u51,u52,u53,u54,u55,u56,u57,u58,u59,u60,u61,u62,u63,u64,u65,u66,u67,u68,u69,u70,u71,u72,u73,u74,u75,u76,u77,u78,u79,u80,u81,u82,u83,u84,u85,u86,u87,u88,u89,u90,u91,u92,u93,u94,u95,u96,u97,u98,u99,u100,u101,u102,u103,u104,u105,u106,u107,u108,u109,u110,u111,u112,u113,u114,u115,u116,u117,u118,u119,u120,u121,u122,u123,u124,u125,u126,u127,u128,u129,u130,u131,u132,u133,u134,u135,u136,u137,u138,u139,u140,u141,u142,u143,u144,u145,u146,u147,u148,u149,u150,u151,u152,u153,u154,u155,u156,u157,u158,u159,u160,u161,u162,u163,u164,u165,u166,u167,u168,u169,u170,u171,u172,u173,u174,u175,u176,u177,u178,u179,u180,u181,u182,u183,u184,u185,u186,u187,u188,u189,u190,u191,u192,u193,u194,u195,u196,u197,u198,u199,u200,u201,u202,u203,u204,u205,u206,u207,u208,u209,u210,u211,u212,u213,u214,u215,u216,u217,u218,u219,u220,u221,u222,u223,u224,u225,u226,u227,u228,u229,u230,u231,u232,u233,u234,u235,u236,u237,u238,u239,u240,u241,u242,u243,u244,u245,u246,u247,u248,u249,u250,u251,u252,u253,u254,u255,u256,u257,u258,u259,u260,u261,u262,u263,u264,u265,u266,u267,u268,u269,u270,u271,u272,u273,u274,u275,u276,u277,u278,u279,u280,u281,u282,u283,u284,u285,u286,u287,u288],[]⟩ w:=by
 have H:=Lib.hid h
 have HC:=Lib.hid (And.intro hm0 (And.intro hlen (And.intro bx (And.intro md (And.intro hw (And.intro hroom (And.intro hcells hlo)))))))
 clear h hm0 hlen bx md hw hroom hcells hlo
 conv=>arg 2;whnf
 go_wp2_with fail
 refine (dobjnew w).mono ?_
 rintro e w1 ⟨O,go,gk,rfl,ho,l1,l2,l3,hb⟩
 have hap:O≠go∧O≠gk∧go≠gk:=⟨cells_apart ho.obj ho.row (by decide),cells_apart ho.obj ho.tk (by decide),cells_apart ho.row ho.tk (by decide)⟩
 have h1:=H.out.add (N:= [(O,Obj.cells #[.slice (some ⟨go,0,none⟩) 64 64, .slice (some ⟨gk,0,none⟩) 64 64] 355 (0,0)),(go,Obj.cells (robjC (List.replicate 64 {})).toArray 277 (0,0)),(gk,Obj.cells (i64A ((List.replicate 64 ({}:ORow)).map (·.times))) 3 (0,0))]) hb (fun p hp=>by
  rcases List.mem_cons.1 hp with rfl|hp
  ·exact ⟨ho.obj,l1⟩
  ·rcases List.mem_cons.1 hp with rfl|hp
   ·exact ⟨ho.row,l2⟩
   ·rcases List.mem_cons.1 hp with rfl|hp
    ·exact ⟨ho.tk,l3⟩
    ·cases hp) (by simp[hap])
 have k17:w1.cell? ⟨K,17,none⟩=some (.pointer none):=blk_cell (h1.ne.hs.at' _ List.mem_cons_self) 17
 have kf: ∀o,w1.frozen? ⟨K,o,none⟩=false:=blk_frozen (h1.ne.hs.at' _ List.mem_cons_self)
 have H2:=Lib.hid (h1.set 17 (.pointer (some ⟨O,0,none⟩)))
 clear ho l1 l2 l3 hb hap h1 H
 go_wp2_with fail
 clear k17 kf
 obtain ⟨hm0,hlen,bx,md,hw,hroom,hcells,hlo⟩:=HC.out
 have hl:=mem_lt H2.out.mem
 have hlt:=fun p hp=>H2.out.ne.hs.lt (p:=p) hp
 exact rdnew_t3' (kb:=fun _=>0) ⟨H2.out,row_at0 _ _ _ _,fun j hj=>absurd hj (Nat.not_lt_zero _),Nat.le_refl _,fun p hp=>hlt p (List.mem_cons_of_mem _ hp),hl.1,hl.2.1,hl.2.2,hlt _ List.mem_cons_self⟩ hm0 hlen bx.more (md O go gk) hw hroom hcells hlo
set_option maxRecDepth 100000 in
theorem rdnew_t2 {w0 w:World} {F:Fixed} {cells:Nat} {entry:Int} {b0 b1 b2 K X gw gh:Nat} {lv cv pv:Value} {S:List (Nat×Obj)} {m0:Mem}
  (h:NM w0 w K F lv cv pv ((K,kO F cells entry lv cv pv (ptrV X) (.pointer none) (.pointer none) (.pointer none) (.pointer none) (.pointer none) (.slice none 0 0) (.slice none 0 0))::S) X gw gh m0) (hm0:decksL m0 F.workers F.workers=laidM F cells) (hlen:17+8*F.workers≤m0.hs.length)
  (bx:Boxes S b0 b1 b2 F cells entry) (hw:1≤F.workers∧F.workers≤64) (hroom:loN F+1≤cells) (hcells:cells≤65536)
  (J:Act→World→Prop) (hJ: ∀a w,(tailC 13 newBody).wp Tryz.prog (bodyPost Tryz.prog Tryz.f31 (NewOk w0 F cells entry)) a w→J a w):(headC 12 newBody).wp Tryz.prog (Exit.then J (bodyPost Tryz.prog Tryz.f31 (NewOk w0 F cells entry))) ⟨#[u0,u1,u2, .pointer (some ⟨b0,0,none⟩), .pointer (some ⟨b1,0,none⟩), .pointer (some ⟨b2,0,none⟩),u6,u7,u8,u9, .pointer (some ⟨K,0,none⟩), .int .i64 (loN F:Nat),u12,u13,u14,u15,u16,u17,u18,u19,u20,u21,u22,u23,u24,u25,u26,u27,u28,u29,u30,u31,u32,u33,u34,u35,u36,u37,u38,u39,u40,u41,u42,u43,u44,u45,u46,u47,u48,u49,u50,u51,u52,u53,u54,u55,u56,u57,u58,u59,u60,u61,u62,u63,u64,u65,u66,u67,u68,u69,u70,u71,u72,u73,u74,u75,u76,u77,u78,u79,u80,u81,u82,u83,u84,u85,u86,u87,u88,u89,u90,u91,u92,u93,u94,u95,u96,u97,u98,u99,u100,u101,u102,u103,u104,u105,u106,u107,u108,u109,u110,u111,u112,u113,u114,u115,u116,u117,u118,u119,u120,u121,u122,u123,u124,u125,u126,u127,u128,u129,u130,u131,u132,u133,u134,u135,u136,u137,u138,u139,u140,u141,u142,u143,u144,u145,u146,u147,u148,u149,u150,u151,u152,u153,u154,u155,u156,u157,u158,u159,u160,u161,u162,u163,u164,u165,u166,u167,u168,u169,u170,u171,u172,u173,u174,u175,u176,u177,u178,u179,u180,u181,u182,u183,u184,u185,u186,u187,u188,u189,u190,u191,u192,u193,u194,u195,u196,u197,u198,u199,u200,u201,u202,u203,u204,u205,u206,u207,u208,u209,u210,u211,u212,u213,u214,u215,u216,u217,u218,u219,u220,u221,u222,u223,u224,u225,u226,u227,u228,u229,u230,u231,u232,u233,u234,u235,u236,u237,u238,u239,u240,u241,u242,u243,u244,u245,u246,u247,u248,u249,u250,u251,u252,u253,u254,u255,u256,u257,u258,u259,u260,u261,u262,u263,u264,u265,u266,u267,u268,u269,u270,u271,u272,u273,u274,u275,u276,u277,u278,u279,u280,u281,u282,u283,u284,u285,u286,u287,u288],[]⟩ w:=by
 have HC:=Lib.hid (And.intro hm0 (And.intro hlen (And.intro hw (And.intro hroom hcells))))
 have H:=Lib.hid (And.intro h bx)
 have hloI:(0:Int)≤(loN F:Int):=by omega
 clear hm0 hlen bx hw hroom hcells
 have k9:w.cell? ⟨K,9,none⟩=some (.pointer (some ⟨X,0,none⟩)):=blk_cell (h.ne.hs.at' _ List.mem_cons_self) 9
 have a1:w.cell? ⟨b0,1,none⟩=some (.int .i64 (cells:Int)):=blk_cell (h.ne.hs.at' _ (List.mem_cons_of_mem _ H.out.2.c)) 1
 have hKl:K<w.heap.size:=h.ne.hs.lt List.mem_cons_self
 have hb0:b0<w.heap.size:=h.ne.hs.lt (List.mem_cons_of_mem _ H.out.2.c)
 have HS:Hid (∀W,Below w.heap.size w W→W.cell? ⟨K,9,none⟩=some (.pointer (some ⟨X,0,none⟩))∧W.cell? ⟨b0,1,none⟩=some (.int .i64 (cells:Int))):=Lib.hid fun W hW=>⟨(hW.cell (p:=⟨K,9,none⟩) hKl).trans k9,(hW.cell (p:=⟨b0,1,none⟩) hb0).trans a1⟩
 have HS2:Hid (∀W v,Below w.heap.size w W→(W.setCell ⟨K,10,none⟩ v).cell? ⟨K,9,none⟩=some (.pointer (some ⟨X,0,none⟩))∧(W.setCell ⟨K,10,none⟩ v).cell? ⟨b0,1,none⟩=some (.int .i64 (cells:Int))):=Lib.hid fun W v hW=>by
  have hn:b0≠K:=(List.nodup_cons.1 h.ne.hs.nod).1∘ (fun e=>by rw[←e];exact List.mem_map_of_mem (f:=(·.1)) H.out.2.c)
  refine ⟨?_,(World.cell?_of_block (set_other (by exact hn))).trans (HS.out W hW).2⟩
  exact (blk_cell (set_block ((hW.block K hKl).trans (h.ne.hs.at' _ List.mem_cons_self)) v) 9).trans rfl
 have HK10:Hid (∀W,Below w.heap.size w W→W.cell? ⟨K,10,none⟩=some (.pointer none)∧W.frozen? ⟨K,10,none⟩=false):=Lib.hid fun W hW=>by
  have e:=(hW.block K hKl).trans (h.ne.hs.at' _ List.mem_cons_self)
  exact ⟨blk_cell e 10,blk_frozen e 10⟩
 have HA:Hid (∀W,Below w.heap.size w W→Calls Tryz.prog 91 #[.pointer (some ⟨X,0,none⟩), .int .i64 (loN F:Nat), .int .i64 (cells:Int)] W fun e w'=> ∃A,e= .returned (.tuple #[.pointer (some ⟨A,0,none⟩), .pointer none])∧w'.heap[A]?=some (.cells #[ptrV X, .int .i64 (loN F:Nat), .int .i64 cells, .slice none 0 0] 258 (0,0))∧w.heap.size≤A∧Below w.heap.size w w'):=Lib.hid fun W hW=>(dalcnew W X (loN F) cells (by have:=HC.out.2.2.2;omega) HC.out.2.2.2.2).mono fun e w' ⟨A,e1,e2,e3,e4⟩=>⟨A,e1,e2.obj,Nat.le_trans hW.size e3,hW.trans (e4.mono hW.size)⟩
 clear h
 have HB0:Hid (Below w.heap.size w w.drew):=Lib.hid (bel_dr (Below.refl _ _))
 conv=>arg 2;whnf
 go_region_held3 (fun W=>W.cell? ⟨K,9,none⟩=some (.pointer (some ⟨X,0,none⟩))∧W.cell? ⟨b0,1,none⟩=some (.int .i64 (cells:Int)))
  (first|with_reducible exact ⟨k9,a1⟩ |exact HS.out _ HB5.out|exact HS2.out _ _ HB5.out|go_keep)
  (first|(go_at_call 91;refine (HA.out _ (by first|exact HB0.out|exact Below.refl _ _)).mono ?_;rintro e w5 ⟨A,rfl,ao,al,ab⟩;have HB5:=Lib.hid ab;have HA5:=Lib.hid (And.intro ao al);obtain ⟨k10,kf10⟩:=HK10.out w5 ab;clear ab ao al k9 a1))
 obtain ⟨ao,al⟩:=HA5.out
 have h1:=H.out.1.add (N:= [(A,Obj.cells #[ptrV X, .int .i64 (loN F:Nat), .int .i64 cells, .slice none 0 0] 258 (0,0))]) HB5.out (fun p hp=>by
  rcases List.mem_cons.1 hp with rfl|hp
  ·exact ⟨ao,al⟩
  ·cases hp) (by simp)
 have H1:=Lib.hid (And.intro (h1.set 10 (.pointer (some ⟨A,0,none⟩))) (H.out.2.more (N:= [(A,Obj.cells #[ptrV X, .int .i64 (loN F:Nat), .int .i64 cells, .slice none 0 0] 258 (0,0))])))
 have hlo:w0.heap.size≤A:=by have:=H.out.1.ne.below.size;omega
 have hlw:w0.heap.size≤w5.heap.size:=Nat.le_trans H.out.1.ne.below.size HB5.out.size
 have HLo:=Lib.hid (And.intro hlo hlw)
 clear ao al h1 HB5 HA5 hlo hlw H HS HS2 HK10 HA HB0 k10 kf10 hKl hb0
 generalize hw6:w5.setCell ⟨K,10,none⟩ (.pointer (some ⟨A,0,none⟩))=w6 at H1 ⊢
 clear hw6
 go_wp2_with fail
 conv=>arg 2;whnf
 go_wp2_with fail
 refine (dquenew w6).mono ?_
 rintro e w7 ⟨Q,rfl,ao,al,ab⟩
 have h1:=H1.out.1.add (N:= [(Q,Obj.cells #[.slice none 0 0, .int .i64 8] 353 (0,0))]) ab (fun p hp=>by
  rcases List.mem_cons.1 hp with rfl|hp
  ·exact ⟨ao,al⟩
  ·cases hp) (by simp)
 have kk:w7.cell? ⟨K,14,none⟩=some (.pointer none):=blk_cell (h1.ne.hs.at' _ List.mem_cons_self) 14
 have kf: ∀o,w7.frozen? ⟨K,o,none⟩=false:=blk_frozen (h1.ne.hs.at' _ List.mem_cons_self)
 have H2:=Lib.hid (And.intro (h1.set 14 (.pointer (some ⟨Q,0,none⟩))) (H1.out.2.more (N:= [(Q,Obj.cells #[.slice none 0 0, .int .i64 8] 353 (0,0))])))
 clear ao al ab h1 H1
 go_upto_region 23 with fail
 clear kk kf
 generalize w7.setCell ⟨K,14,none⟩ (.pointer (some ⟨Q,0,none⟩))=w8 at H2 ⊢
 go_wp2_with fail
 refine (dringnew w8).mono ?_
 rintro e w9 ⟨R,rfl,ao,al,ab⟩
 have h1:=H2.out.1.add (N:= [(R,Obj.cells #[.slice none 0 0, .int .i64 64] 124 (0,0))]) ab (fun p hp=>by
  rcases List.mem_cons.1 hp with rfl|hp
  ·exact ⟨ao,al⟩
  ·cases hp) (by simp)
 have kk:w9.cell? ⟨K,15,none⟩=some (.pointer none):=blk_cell (h1.ne.hs.at' _ List.mem_cons_self) 15
 have kf: ∀o,w9.frozen? ⟨K,o,none⟩=false:=blk_frozen (h1.ne.hs.at' _ List.mem_cons_self)
 have hR:w0.heap.size≤R:=Nat.le_trans H2.out.1.ne.below.size al
 have H3:=Lib.hid (And.intro (h1.set 15 (.pointer (some ⟨R,0,none⟩))) (H2.out.2.more (N:= [(R,Obj.cells #[.slice none 0 0, .int .i64 64] 124 (0,0))])))
 clear ao al ab h1 H2
 go_upto_region 24 with fail
 clear kk kf
 generalize w9.setCell ⟨K,15,none⟩ (.pointer (some ⟨R,0,none⟩))=w10 at H3 ⊢
 go_wp2_with fail
 refine (dtabnew w10).mono ?_
 rintro e w11 ⟨T,gt,rfl,ao,al,al2,ab⟩
 have hne:T≠gt:=cells_apart ao.obj ao.row (by decide)
 have h1:=H3.out.1.add (N:= [(T,Obj.cells #[.slice (some ⟨gt,0,none⟩) 64 64] 263 (0,0)),(gt,Obj.cells (rtabC (List.replicate 64 {})).toArray 265 (0,0))]) ab (fun p hp=>by
  rcases List.mem_cons.1 hp with rfl|hp
  ·exact ⟨ao.obj,al⟩
  ·rcases List.mem_cons.1 hp with rfl|hp
   ·exact ⟨ao.row,al2⟩
   ·cases hp) (by simp[hne])
 have kk:w11.cell? ⟨K,16,none⟩=some (.pointer none):=blk_cell (h1.ne.hs.at' _ List.mem_cons_self) 16
 have kf: ∀o,w11.frozen? ⟨K,o,none⟩=false:=blk_frozen (h1.ne.hs.at' _ List.mem_cons_self)
 have hT:w0.heap.size≤gt:=Nat.le_trans H3.out.1.ne.below.size al2
 have H4:=Lib.hid (And.intro (h1.set 16 (.pointer (some ⟨T,0,none⟩))) (H3.out.2.more (N:= [(T,Obj.cells #[.slice (some ⟨gt,0,none⟩) 64 64] 263 (0,0)),(gt,Obj.cells (rtabC (List.replicate 64 {})).toArray 265 (0,0))])))
 clear ao al al2 ab h1 H3 hne
 go_upto_region 25 with fail
 clear kk kf
 obtain ⟨hm0,hlen,hw,hroom,hcells⟩:=HC.out
 exact rdnew_t2b H4.out.1 hm0 hlen H4.out.2 (fun O go gk=>⟨by simp,by simp,by simp,⟨by simp,by simp⟩,by simp,by simp,by simp⟩) hw hroom hcells ⟨HLo.out.1,hR,hT⟩ _ (by assumption)
end Go.Proofs.YtaangaogmnlljaaGreatDoor.Kn
namespace Go.Proofs.YtaangaogmnlljaaGreatDoor.Kn
open Go.RowKit Go.Maps Asm
variable {u0 u1 u2 u6 u7 u8 u9 u12 u13 u14 u15 u16 u17 u18 u19 u20 u21 u22 u23 u24 u25 u26 u27 u28 u29 u30 u31 u32 u33 u34 u35 u36 u37 u38 u39 u40 u41 u42 u43 u44 u45 u46 u47 u48 u49 u50 u51 u52 u53 u54 u55 u56 u57 u58 u59 u60 u61 u62 u63 u64 u65 u66 u67 u68 u69 u70 u71 u72 u73 u74 u75 u76 u77 u78 u79 u80 u81 u82 u83 u84 u85 u86 u87 u88 u89 u90 u91 u92 u93 u94 u95 u96 u97 u98 u99 u100 u101 u102 u103 u104 u105 u106 u107 u108 u109 u110 u111 u112 u113 u114 u115 u116 u117 u118 u119 u120 u121 u122 u123 u124 u125 u126 u127 u128 u129 u130 u131 u132 u133 u134 u135 u136 u137 u138 u139 u140 u141 u142 u143 u144 u145 u146 u147 u148 u149 u150 u151 u152 u153 u154 u155 u156 u157 u158 u159 u160 u161 u162 u163 u164 u165 u166 u167 u168 u169 u170 u171 u172 u173 u174 u175 u176 u177 u178 u179 u180 u181 u182 u183 u184 u185 u186 u187 u188 u189 u190 u191 u192 u193 u194 u195 u196 u197 u198 u199 u200 u201 u202 u203 u204 u205 u206 u207 u208 u209 u210 u211 u212 u213 u214 u215 u216 u217 u218 u219 u220 u221 u222 u223 u224 u225 u226 u227 u228 u229 u230 u231 u232 u233 u234 u235 u236 u237 u238 u239 u240 u241 u242 u243 u244 u245 u246 u247 u248 u249 u250 u251 u252 u253 u254 u255 u256 u257 u258 u259 u260 u261 u262 u263 u264 u265 u266 u267 u268 u269 u270 u271 u272 u273 u274 u275 u276 u277 u278 u279 u280 u281 u282 u283 u284 u285 u286 u287 u288:Value}
theorem a40.q57 {P:Prop} (h:P:=by
 obtain ⟨pu,hpp⟩:=bx.p
 have p2:w.cell? ⟨b2,2,none⟩=some (.int .i64 (wn:Int)):=by
  rw[←hwnI]
  exact blk_cell (h.ne.hs.at' _ (List.mem_cons_of_mem _ hpp)) 2
 have p3:w.cell? ⟨b2,3,none⟩=some (.int .i64 (gn:Int)):=by
  rw[←hgnI]
  exact blk_cell (h.ne.hs.at' _ (List.mem_cons_of_mem _ hpp)) 3
 have hnl:(nb:Int)≤65536:=by omega
 have hwl:(wn:Int)≤256∧(gn:Int)≤256:=by omega
 have hsum:IntKind.i64.wrap ((nb:Int)+(wn:Int))=(nb:Int)+(wn:Int):=by rw[IntKind.wrap_i64];omega
 have HC:=Lib.hid (And.intro hm0 (And.intro bx (And.intro hw (And.intro hroom hcells))))
 have HMp:Hid (0<gn→Calls Tryz.prog 90 #[.pointer (some ⟨X,0,none⟩), .int .i64 ((nb:Int)+(wn:Int)), .int .i64 (gn:Int), .int .i64 32] w.drew fun e w'=>e= .returned (.pointer none)∧RMemP w' X gw gh ((mapIf ((mem0 cells).map 0 nb 64) nb wn 64).map (nb+wn) gn 32)∧Keeps (fun b=>b=gw∨b=gh) w.drew w'):=Lib.hid (fun h0=>by
  have:=rmap_any HM.out.drew.mem (nb+wn) gn 32 (Or.inl rfl) h0 (hfr h0)
  rw[Int.natCast_add] at this
  exact this)
 clear hnb hwn hgn hnbI hwnI hgnI hsz hfr hm0 hm h bx hpp hw hwd hroom hcells
 conv=>arg 2;whnf
 by_cases hw0:0<gn
 ·have hw1:(0:Int)<(gn:Int):=by omega
  go_upto_region 20 with fail
  go_still_tail 13,(by kernel_rfl)
  change wpList _ _ _ _ _ w.drew
  have HM1:=Lib.hid HM.out.drew
  clear k9 k20 p2 p3
  generalize w.drew=wd4 at HM1 HMp ⊢
  go_wp2_with fail
  refine (HMp.out hw0).mono ?_
  rintro e w20 ⟨rfl,hm,hk⟩
  have HM20:=Lib.hid (HM1.out.map hm hk)
  clear hm hk HM HM1 HMp
  go_wp2_with fail
  conv=>arg 2;whnf
  go_upto_region 21 with fail
  obtain ⟨hm0,bx,hw,hroom,hcells⟩:=HC.out
  have q:=hm0 _ rfl
  have e:mapIf (mapIf ((mem0 cells).map 0 nb 64) nb wn 64) (nb+wn) gn 32=(mapIf ((mem0 cells).map 0 nb 64) nb wn 64).map (nb+wn) gn 32:=by unfold mapIf;rw[if_pos (c:=0<gn) hw0]
  rw[e] at q
  exact rdnew_t2 HM20.out q.1 q.2 bx hw hroom hcells _ (by assumption)
 ·have hw1: ¬(0:Int)<(gn:Int):=by omega
  go_wp2_with fail
  conv=>arg 2;whnf
  go_upto_region 21 with fail
  obtain ⟨hm0,bx,hw,hroom,hcells⟩:=HC.out
  have q:=hm0 _ rfl
  have e:mapIf (mapIf ((mem0 cells).map 0 nb 64) nb wn 64) (nb+wn) gn 32=mapIf ((mem0 cells).map 0 nb 64) nb wn 64:=by rw[mapIf,if_neg (c:=0<gn) hw0]
  rw[e] at q
  exact rdnew_t2 HM.out q.1 q.2 bx hw hroom hcells _ (by assumption)):P:=h
open a40 in
set_option maxRecDepth 100000 in
theorem rdnew_t1e {w0 w:World} {F:Fixed} {cells:Nat} {entry:Int} {b0 b1 b2 K X gw gh:Nat} {lv cv pv:Value} {S:List (Nat×Obj)}
  (h:NM w0 w K F lv cv pv ((K,kO F cells entry lv cv pv (ptrV X) (.pointer none) (.pointer none) (.pointer none) (.pointer none) (.pointer none) (.slice none 0 0) (.slice none 0 0))::S) X gw gh (mapIf ((mem0 cells).map 0 (baseN F) 64) (baseN F) F.wide.toNat 64))
  (bx:Boxes S b0 b1 b2 F cells entry) (hw:1≤F.workers∧F.workers≤64) (hwd:0≤F.wide∧0≤F.narrow∧F.wide+F.narrow≤256) (hroom:loN F+1≤cells) (hcells:cells≤65536)
  (J:Act→World→Prop) (hJ: ∀a w,(tailC 12 newBody).wp Tryz.prog (bodyPost Tryz.prog Tryz.f31 (NewOk w0 F cells entry)) a w→J a w):(headC 11 newBody).wp Tryz.prog (Exit.then J (bodyPost Tryz.prog Tryz.f31 (NewOk w0 F cells entry))) ⟨#[u0,u1,u2, .pointer (some ⟨b0,0,none⟩), .pointer (some ⟨b1,0,none⟩), .pointer (some ⟨b2,0,none⟩),u6,u7,u8,u9, .pointer (some ⟨K,0,none⟩), .int .i64 (loN F:Nat),u12,u13,u14,u15,u16,u17,u18,u19,u20,u21,u22,u23,u24,u25,u26,u27,u28,u29,u30,u31,u32,u33,u34,u35,u36,u37,u38,u39,u40,u41,u42,u43,u44,u45,u46,u47,u48,u49,u50,u51,u52,u53,u54,u55,u56,u57,u58,u59,u60,u61,u62,u63,u64,u65,u66,u67,u68,u69,u70,u71,u72,u73,u74,u75,u76,u77,u78,u79,u80,u81,u82,u83,u84,u85,u86,u87,u88,u89,u90,u91,u92,u93,u94,u95,u96,u97,u98,u99,u100,u101,u102,u103,u104,u105,u106,u107,u108,u109,u110,u111,u112,u113,u114,u115,u116,u117,u118,u119,u120,u121,u122,u123,u124,u125,u126,u127,u128,u129,u130,u131,u132,u133,u134,u135,u136,u137,u138,u139,u140,u141,u142,u143,u144,u145,u146,u147,u148,u149,u150,u151,u152,u153,u154,u155,u156,u157,u158,u159,u160,u161,u162,u163,u164,u165,u166,u167,u168,u169,u170,u171,u172,u173,u174,u175,u176,u177,u178,u179,u180,u181,u182,u183,u184,u185,u186,u187,u188,u189,u190,u191,u192,u193,u194,u195,u196,u197,u198,u199,u200,u201,u202,u203,u204,u205,u206,u207,u208,u209,u210,u211,u212,u213,u214,u215,u216,u217,u218,u219,u220,u221,u222,u223,u224,u225,u226,u227,u228,u229,u230,u231,u232,u233,u234,u235,u236,u237,u238,u239,u240,u241,u242,u243,u244,u245,u246,u247,u248,u249,u250,u251,u252,u253,u254,u255,u256,u257,u258,u259,u260,u261,u262,u263,u264,u265,u266,u267,u268,u269,u270,u271,u272,u273,u274,u275,u276,u277,u278,u279,u280,u281,u282,u283,u284,u285,u286,u287,u288],[]⟩ w:=by
 obtain ⟨nb,hnb⟩: ∃nb,nb=baseN F:=⟨_,rfl⟩
 obtain ⟨wn,hwn⟩: ∃wn,wn=F.wide.toNat:=⟨_,rfl⟩
 obtain ⟨gn,hgn⟩: ∃gn,gn=F.narrow.toNat:=⟨_,rfl⟩
 have hnbI:F.base=(nb:Int):=by rw[hnb];unfold Fixed.base baseN;omega
 have hwnI:F.wide=(wn:Int):=by omega
 have hgnI:F.narrow=(gn:Int):=by omega
 have hsz:nb+wn+gn+1≤cells:=by rw[hnb,hwn,hgn];exact hroom
 have hfr:0<gn→(mapIf ((mem0 cells).map 0 nb 64) nb wn 64).free? (nb+wn) gn=true:=fun _=>mapIf_free (free_map (by simp[mem0]) (free_zero (by omega)) (by omega)) (by simp[Mem.map,fillL,mem0]) (Nat.le_refl _)
 have hm0: ∀m,m=mapIf (mapIf ((mem0 cells).map 0 nb 64) nb wn 64) (nb+wn) gn 32→decksL m F.workers F.workers=laidM F cells∧17+8*F.workers≤m.hs.length:=fun m e=>by
  have h0:((mem0 cells).map 0 (baseN F) 64).hs.length=cells:=by unfold Mem.map fillL mem0;simp;omega
  rw[e,hnb,hwn,hgn]
  refine ⟨laid_doc F cells (by omega),?_⟩
  rw[mapIf_len (by rw[mapIf_len (by rw[h0];omega),h0];omega),mapIf_len (by rw[h0];omega),h0]
  unfold baseN at hnb
  omega
 have hm:RMemP w X gw gh (mapIf ((mem0 cells).map 0 nb 64) nb wn 64):=by have:=h.mem;rwa[←hnb,←hwn] at this
 have HM:Hid (NM w0 w K F lv cv pv ((K,kO F cells entry lv cv pv (ptrV X) (.pointer none) (.pointer none) (.pointer none) (.pointer none) (.pointer none) (.slice none 0 0) (.slice none 0 0))::S) X gw gh (mapIf ((mem0 cells).map 0 nb 64) nb wn 64)):=Lib.hid (by have:=h;rwa[←hnb,←hwn] at this)
 exact m57
theorem a41.q57 {P:Prop} (h:P:=by
 obtain ⟨pu,hpp⟩:=bx.p
 have p2:w.cell? ⟨b2,2,none⟩=some (.int .i64 (wn:Int)):=by
  rw[←hwnI]
  exact blk_cell (h.ne.hs.at' _ (List.mem_cons_of_mem _ hpp)) 2
 have hnl:(nb:Int)≤65536:=by omega
 have hwl:(wn:Int)≤256:=by omega
 have HC:=Lib.hid (And.intro hnb (And.intro hwn (And.intro bx (And.intro hw (And.intro hwd (And.intro hroom hcells))))))
 have HMp:Hid (0<wn→Calls Tryz.prog 90 #[.pointer (some ⟨X,0,none⟩), .int .i64 (nb:Int), .int .i64 (wn:Int), .int .i64 64] w.drew fun e w'=>e= .returned (.pointer none)∧RMemP w' X gw gh (((mem0 cells).map 0 nb 64).map nb wn 64)∧Keeps (fun b=>b=gw∨b=gh) w.drew w'):=Lib.hid (fun h0=>rmap_any HM.out.drew.mem nb wn 64 (Or.inr rfl) h0 (hfr h0))
 clear hnb hwn hnbI hwnI hsz hfr h bx hpp hw hwd hroom hcells
 conv=>arg 2;whnf
 by_cases hw0:0<wn
 ·have hw1:(0:Int)<(wn:Int):=by omega
  go_upto_region 18 with fail
  go_still_tail 10,(by kernel_rfl)
  change wpList _ _ _ _ _ w.drew
  have HM1:=Lib.hid HM.out.drew
  clear k9 k20 p2
  generalize w.drew=wd4 at HM1 HMp ⊢
  go_wp2_with fail
  refine (HMp.out hw0).mono ?_
  rintro e w20 ⟨rfl,hm,hk⟩
  have HM20:=Lib.hid (HM1.out.map hm hk)
  clear hm hk HM HM1 HMp
  go_wp2_with fail
  conv=>arg 2;whnf
  refine wp_seq_k (fun J hJ=>?_)
  obtain ⟨hnb,hwn,bx,hw,hwd,hroom,hcells⟩:=HC.out
  refine rdnew_t1e (by rw[←hnb,←hwn,mapIf,if_pos hw0];exact HM20.out) bx hw hwd hroom hcells _ hJ
 ·have hw1: ¬(0:Int)<(wn:Int):=by omega
  go_wp2_with fail
  conv=>arg 2;whnf
  refine wp_seq_k (fun J hJ=>?_)
  obtain ⟨hnb,hwn,bx,hw,hwd,hroom,hcells⟩:=HC.out
  refine rdnew_t1e (by rw[←hnb,←hwn,mapIf,if_neg hw0];exact HM.out) bx hw hwd hroom hcells _ hJ):P:=h
open a41 in
set_option maxRecDepth 100000 in
theorem rdnew_t1d {w0 w:World} {F:Fixed} {cells:Nat} {entry:Int} {b0 b1 b2 K X gw gh:Nat} {lv cv pv:Value} {S:List (Nat×Obj)}
  (h:NM w0 w K F lv cv pv ((K,kO F cells entry lv cv pv (ptrV X) (.pointer none) (.pointer none) (.pointer none) (.pointer none) (.pointer none) (.slice none 0 0) (.slice none 0 0))::S) X gw gh ((mem0 cells).map 0 (baseN F) 64))
  (bx:Boxes S b0 b1 b2 F cells entry) (hw:1≤F.workers∧F.workers≤64) (hwd:0≤F.wide∧0≤F.narrow∧F.wide+F.narrow≤256) (hroom:loN F+1≤cells) (hcells:cells≤65536)
  (J:Act→World→Prop) (hJ: ∀a w,(tailC 11 newBody).wp Tryz.prog (bodyPost Tryz.prog Tryz.f31 (NewOk w0 F cells entry)) a w→J a w):(headC 10 newBody).wp Tryz.prog (Exit.then J (bodyPost Tryz.prog Tryz.f31 (NewOk w0 F cells entry))) ⟨#[u0,u1,u2, .pointer (some ⟨b0,0,none⟩), .pointer (some ⟨b1,0,none⟩), .pointer (some ⟨b2,0,none⟩),u6,u7,u8,u9, .pointer (some ⟨K,0,none⟩), .int .i64 (loN F:Nat),u12,u13,u14,u15,u16,u17,u18,u19,u20,u21,u22,u23,u24,u25,u26,u27,u28,u29,u30,u31,u32,u33,u34,u35,u36,u37,u38,u39,u40,u41,u42,u43,u44,u45,u46,u47,u48,u49,u50,u51,u52,u53,u54,u55,u56,u57,u58,u59,u60,u61,u62,u63,u64,u65,u66,u67,u68,u69,u70,u71,u72,u73,u74,u75,u76,u77,u78,u79,u80,u81,u82,u83,u84,u85,u86,u87,u88,u89,u90,u91,u92,u93,u94,u95,u96,u97,u98,u99,u100,u101,u102,u103,u104,u105,u106,u107,u108,u109,u110,u111,u112,u113,u114,u115,u116,u117,u118,u119,u120,u121,u122,u123,u124,u125,u126,u127,u128,u129,u130,u131,u132,u133,u134,u135,u136,u137,u138,u139,u140,u141,u142,u143,u144,u145,u146,u147,u148,u149,u150,u151,u152,u153,u154,u155,u156,u157,u158,u159,u160,u161,u162,u163,u164,u165,u166,u167,u168,u169,u170,u171,u172,u173,u174,u175,u176,u177,u178,u179,u180,u181,u182,u183,u184,u185,u186,u187,u188,u189,u190,u191,u192,u193,u194,u195,u196,u197,u198,u199,u200,u201,u202,u203,u204,u205,u206,u207,u208,u209,u210,u211,u212,u213,u214,u215,u216,u217,u218,u219,u220,u221,u222,u223,u224,u225,u226,u227,u228,u229,u230,u231,u232,u233,u234,u235,u236,u237,u238,u239,u240,u241,u242,u243,u244,u245,u246,u247,u248,u249,u250,u251,u252,u253,u254,u255,u256,u257,u258,u259,u260,u261,u262,u263,u264,u265,u266,u267,u268,u269,u270,u271,u272,u273,u274,u275,u276,u277,u278,u279,u280,u281,u282,u283,u284,u285,u286,u287,u288],[]⟩ w:=by
 obtain ⟨nb,hnb⟩: ∃nb,nb=baseN F:=⟨_,rfl⟩
 obtain ⟨wn,hwn⟩: ∃wn,wn=F.wide.toNat:=⟨_,rfl⟩
 have hnbI:F.base=(nb:Int):=by rw[hnb];unfold Fixed.base baseN;omega
 have hwnI:F.wide=(wn:Int):=by omega
 have hsz:nb+wn+1≤cells:=by have:=hroom;unfold loN at this;omega
 have hfr:0<wn→((mem0 cells).map 0 nb 64).free? nb wn=true:=fun _=>free_map (by simp[mem0]) (free_zero (by omega)) (by omega)
 have HM:Hid (NM w0 w K F lv cv pv ((K,kO F cells entry lv cv pv (ptrV X) (.pointer none) (.pointer none) (.pointer none) (.pointer none) (.pointer none) (.slice none 0 0) (.slice none 0 0))::S) X gw gh ((mem0 cells).map 0 nb 64)):=Lib.hid (by have:=h;rwa[←hnb] at this)
 exact m57
end Go.Proofs.YtaangaogmnlljaaGreatDoor.Kn
namespace Go.Proofs.YtaangaogmnlljaaGreatDoor.Kn
open Go.RowKit Go.Maps Asm
variable {u0 u1 u2 u6 u7 u8 u9 u11 u12 u13 u14 u15 u16 u17 u18 u19 u20 u21 u22 u23 u24 u25 u26 u27 u28 u29 u30 u31 u32 u33 u34 u35 u36 u37 u38 u39 u40 u41 u42 u43 u44 u45 u46 u47 u48 u49 u50 u51 u52 u53 u54 u55 u56 u57 u58 u59 u60 u61 u62 u63 u64 u65 u66 u67 u68 u69 u70 u71 u72 u73 u74 u75 u76 u77 u78 u79 u80 u81 u82 u83 u84 u85 u86 u87 u88 u89 u90 u91 u92 u93 u94 u95 u96 u97 u98 u99 u100 u101 u102 u103 u104 u105 u106 u107 u108 u109 u110 u111 u112 u113 u114 u115 u116 u117 u118 u119 u120 u121 u122 u123 u124 u125 u126 u127 u128 u129 u130 u131 u132 u133 u134 u135 u136 u137 u138 u139 u140 u141 u142 u143 u144 u145 u146 u147 u148 u149 u150 u151 u152 u153 u154 u155 u156 u157 u158 u159 u160 u161 u162 u163 u164 u165 u166 u167 u168 u169 u170 u171 u172 u173 u174 u175 u176 u177 u178 u179 u180 u181 u182 u183 u184 u185 u186 u187 u188 u189 u190 u191 u192 u193 u194 u195 u196 u197 u198 u199 u200 u201 u202 u203 u204 u205 u206 u207 u208 u209 u210 u211 u212 u213 u214 u215 u216 u217 u218 u219 u220 u221 u222 u223 u224 u225 u226 u227 u228 u229 u230 u231 u232 u233 u234 u235 u236 u237 u238 u239 u240 u241 u242 u243 u244 u245 u246 u247 u248 u249 u250 u251 u252 u253 u254 u255 u256 u257 u258 u259 u260 u261 u262 u263 u264 u265 u266 u267 u268 u269 u270 u271 u272 u273 u274 u275 u276 u277 u278 u279 u280 u281 u282 u283 u284 u285 u286 u287 u288:Value}
theorem a42.q57 {P:Prop} (h:P:=by
 have HMp:Hid (Calls Tryz.prog 90 #[.pointer (some ⟨X,0,none⟩), .int .i64 0, .int .i64 (nb:Int), .int .i64 64] w.drew fun e w'=>e= .returned (.pointer none)∧RMemP w' X gw gh ((mem0 cells).map 0 nb 64)∧Keeps (fun b=>b=gw∨b=gh) w.drew w'):=Lib.hid (rmap_any h.drew.mem 0 nb 64 (Or.inr rfl) (by rw[hnb];unfold baseN;omega) (free_zero (by unfold loN at hroom;omega)))
 have HC:=Lib.hid (And.intro hnb (And.intro bx (And.intro hw (And.intro hwd (And.intro hroom hcells)))))
 have H3:=Lib.hid h.drew
 clear h hnb hnbI bx hw hwd hroom hcells
 conv=>arg 2;whnf
 go_still_tail 8,(by kernel_rfl)
 change wpList _ _ _ _ _ w.drew
 clear k9 k20
 generalize w.drew=w4 at H3 HMp ⊢
 go_wp2_with fail
 refine HMp.out.mono ?_
 rintro e w5 ⟨rfl,hm,hk⟩
 have H4:=Lib.hid (H3.out.map hm hk)
 clear hm hk H3 HMp
 go_wp2_with fail
 conv=>arg 2;whnf
 refine wp_seq_k (fun J hJ=>?_)
 obtain ⟨hnb,bx,hw,hwd,hroom,hcells⟩:=HC.out
 exact rdnew_t1d (by rw[←hnb];exact H4.out) bx hw hwd hroom hcells _ hJ):P:=h
open a42 in
set_option maxRecDepth 100000 in
theorem rdnew_t1b {w0 w:World} {F:Fixed} {cells:Nat} {entry:Int} {b0 b1 b2 K X gw gh:Nat} {lv cv pv:Value} {S:List (Nat×Obj)}
  (h:NM w0 w K F lv cv pv ((K,kO F cells entry lv cv pv (ptrV X) (.pointer none) (.pointer none) (.pointer none) (.pointer none) (.pointer none) (.slice none 0 0) (.slice none 0 0))::S) X gw gh (mem0 cells))
  (bx:Boxes S b0 b1 b2 F cells entry) (hw:1≤F.workers∧F.workers≤64) (hwd:0≤F.wide∧0≤F.narrow∧F.wide+F.narrow≤256) (hroom:loN F+1≤cells) (hcells:cells≤65536)
  (J:Act→World→Prop) (hJ: ∀a w,(tailC 10 newBody).wp Tryz.prog (bodyPost Tryz.prog Tryz.f31 (NewOk w0 F cells entry)) a w→J a w):(headC 9 newBody).wp Tryz.prog (Exit.then J (bodyPost Tryz.prog Tryz.f31 (NewOk w0 F cells entry))) ⟨#[u0,u1,u2, .pointer (some ⟨b0,0,none⟩), .pointer (some ⟨b1,0,none⟩), .pointer (some ⟨b2,0,none⟩),u6,u7,u8,u9, .pointer (some ⟨K,0,none⟩), .int .i64 (loN F:Nat),u12,u13,u14,u15,u16,u17,u18,u19,u20,u21,u22,u23,u24,u25,u26,u27,u28,u29,u30,u31,u32,u33,u34,u35,u36,u37,u38,u39,u40,u41,u42,u43,u44,u45,u46,u47,u48,u49,u50,u51,u52,u53,u54,u55,u56,u57,u58,u59,u60,u61,u62,u63,u64,u65,u66,u67,u68,u69,u70,u71,u72,u73,u74,u75,u76,u77,u78,u79,u80,u81,u82,u83,u84,u85,u86,u87,u88,u89,u90,u91,u92,u93,u94,u95,u96,u97,u98,u99,u100,u101,u102,u103,u104,u105,u106,u107,u108,u109,u110,u111,u112,u113,u114,u115,u116,u117,u118,u119,u120,u121,u122,u123,u124,u125,u126,u127,u128,u129,u130,u131,u132,u133,u134,u135,u136,u137,u138,u139,u140,u141,u142,u143,u144,u145,u146,u147,u148,u149,u150,u151,u152,u153,u154,u155,u156,u157,u158,u159,u160,u161,u162,u163,u164,u165,u166,u167,u168,u169,u170,u171,u172,u173,u174,u175,u176,u177,u178,u179,u180,u181,u182,u183,u184,u185,u186,u187,u188,u189,u190,u191,u192,u193,u194,u195,u196,u197,u198,u199,u200,u201,u202,u203,u204,u205,u206,u207,u208,u209,u210,u211,u212,u213,u214,u215,u216,u217,u218,u219,u220,u221,u222,u223,u224,u225,u226,u227,u228,u229,u230,u231,u232,u233,u234,u235,u236,u237,u238,u239,u240,u241,u242,u243,u244,u245,u246,u247,u248,u249,u250,u251,u252,u253,u254,u255,u256,u257,u258,u259,u260,u261,u262,u263,u264,u265,u266,u267,u268,u269,u270,u271,u272,u273,u274,u275,u276,u277,u278,u279,u280,u281,u282,u283,u284,u285,u286,u287,u288],[]⟩ w:=by
 obtain ⟨nb,hnb⟩: ∃nb,nb=baseN F:=⟨_,rfl⟩
 have hnbI:F.base=(nb:Int):=by rw[hnb];unfold Fixed.base baseN;omega
 exact m57
theorem a43.q40 {P:Prop} (h:P:=by
 have HC:=Lib.hid (And.intro hnb (And.intro hlo (And.intro hnbI (And.intro bx (And.intro hw (And.intro hwd (And.intro hroom hcells)))))))
 have H:=Lib.hid h
 clear h hnb hlo hnbI hloI bx hpp hw hwd hroom hcells
 conv=>arg 2;whnf
 go_quiet (fail)
 go_wp2_with fail
 have HN:=Lib.hid (H.out.drewN nq)
 clear k20 p2 p3 hs1 hs2 H
 generalize w.drewN nq=w1 at HN ⊢
 have a1:w1.cell? ⟨b0,1,none⟩=some (.int .i64 (cells:Int)):=blk_cell (HN.out.hs.at' _ (List.mem_cons_of_mem _ HC.out.2.2.2.1.c)) 1
 have hs3:IntKind.i64.wrap ((lo:Int)+1)=(lo:Int)+1:=by rw[IntKind.wrap_i64];omega
 have hgt: ¬(cells:Int)<(lo:Int)+1:=by omega
 conv=>arg 2;whnf
 go_upto_region 15 with fail
 have HMn:=Lib.hid (dmemnew cells (by omega) (by omega) w1)
 clear hs3 hgt
 go_wp2_with fail
 refine HMn.out.mono ?_
 rintro e w2 ⟨X,gw,gh,rfl,l1,l2,l3,hm,hb⟩
 have h1:=NM.start HN.out (HN.out.hs.lt List.mem_cons_self) hb hm l1 l2 l3
 have kk:w2.cell? ⟨K,9,none⟩=some (.pointer none):=blk_cell (h1.ne.hs.at' _ List.mem_cons_self) 9
 have kf: ∀o,w2.frozen? ⟨K,o,none⟩=false:=blk_frozen (h1.ne.hs.at' _ List.mem_cons_self)
 have H2:=Lib.hid (h1.set 9 (.pointer (some ⟨X,0,none⟩)))
 clear l1 l2 l3 hm hb h1 HN HMn a1
 go_upto_region 16 with fail
 clear kk kf
 generalize w2.setCell ⟨K,9,none⟩ (.pointer (some ⟨X,0,none⟩))=w3 at H2 ⊢
 obtain ⟨hnb,hlo,-,bx,hw,hwd,hroom,hcells⟩:=HC.out
 rw[hlo]
 exact rdnew_t1b H2.out bx hw hwd hroom hcells _ (by assumption)):P:=h
theorem a43.q118 {P:Prop} (h:P:=by
 have hl1:(lo:Int)+1≤(cells:Int)∧(cells:Int)≤65536∧(0:Int)≤(lo:Int):=by omega
 exact m40):P:=h
open a43 in
set_option maxRecDepth 100000 in
theorem rdnew_t1c {w0 w:World} {F:Fixed} {cells:Nat} {entry:Int} {b0 b1 b2 K:Nat} {lv cv pv:Value} {S:List (Nat×Obj)}
  (h:NE w0 w K F lv cv pv ((K,kO F cells entry lv cv pv (.pointer none) (.pointer none) (.pointer none) (.pointer none) (.pointer none) (.pointer none) (.slice none 0 0) (.slice none 0 0))::S))
  (bx:Boxes S b0 b1 b2 F cells entry) (hw:1≤F.workers∧F.workers≤64) (hwd:0≤F.wide∧0≤F.narrow∧F.wide+F.narrow≤256) (hroom:loN F+1≤cells) (hcells:cells≤65536)
  (J:Act→World→Prop) (hJ: ∀a w,(tailC 7 newBody).wp Tryz.prog (bodyPost Tryz.prog Tryz.f31 (NewOk w0 F cells entry)) a w→J a w):(headC 6 newBody).wp Tryz.prog (Exit.then J (bodyPost Tryz.prog Tryz.f31 (NewOk w0 F cells entry))) ⟨#[u0,u1,u2, .pointer (some ⟨b0,0,none⟩), .pointer (some ⟨b1,0,none⟩), .pointer (some ⟨b2,0,none⟩),u6,u7,u8,u9, .pointer (some ⟨K,0,none⟩),u11,u12,u13,u14,u15,u16,u17,u18,u19,u20,u21,u22,u23,u24,u25,u26,u27,u28,u29,u30,u31,u32,u33,u34,u35,u36,u37,u38,u39,u40,u41,u42,u43,u44,u45,u46,u47,u48,u49,u50,u51,u52,u53,u54,u55,u56,u57,u58,u59,u60,u61,u62,u63,u64,u65,u66,u67,u68,u69,u70,u71,u72,u73,u74,u75,u76,u77,u78,u79,u80,u81,u82,u83,u84,u85,u86,u87,u88,u89,u90,u91,u92,u93,u94,u95,u96,u97,u98,u99,u100,u101,u102,u103,u104,u105,u106,u107,u108,u109,u110,u111,u112,u113,u114,u115,u116,u117,u118,u119,u120,u121,u122,u123,u124,u125,u126,u127,u128,u129,u130,u131,u132,u133,u134,u135,u136,u137,u138,u139,u140,u141,u142,u143,u144,u145,u146,u147,u148,u149,u150,u151,u152,u153,u154,u155,u156,u157,u158,u159,u160,u161,u162,u163,u164,u165,u166,u167,u168,u169,u170,u171,u172,u173,u174,u175,u176,u177,u178,u179,u180,u181,u182,u183,u184,u185,u186,u187,u188,u189,u190,u191,u192,u193,u194,u195,u196,u197,u198,u199,u200,u201,u202,u203,u204,u205,u206,u207,u208,u209,u210,u211,u212,u213,u214,u215,u216,u217,u218,u219,u220,u221,u222,u223,u224,u225,u226,u227,u228,u229,u230,u231,u232,u233,u234,u235,u236,u237,u238,u239,u240,u241,u242,u243,u244,u245,u246,u247,u248,u249,u250,u251,u252,u253,u254,u255,u256,u257,u258,u259,u260,u261,u262,u263,u264,u265,u266,u267,u268,u269,u270,u271,u272,u273,u274,u275,u276,u277,u278,u279,u280,u281,u282,u283,u284,u285,u286,u287,u288],[]⟩ w:=by
 exact m118
end Go.Proofs.YtaangaogmnlljaaGreatDoor.Kn
namespace Go.Proofs.YtaangaogmnlljaaGreatDoor.Kn
open Go.RowKit Asm
theorem fnum_j {o xa xb xc xv xm xw n:Int} (w:World) (hn:0≤n∧n≤4000) (ho:o=12∨o=13∨o=14∨o=15):Calls Tryz.prog 333 #[.agg #[.int .i64 o, .int .i64 xa, .int .i64 xb, .int .i64 xc, .int .u64 xv, .int .i64 xm, .int .i64 xw], .bool true, .int .i64 n] w fun e w'=>e= .returned (.bool (numOk ⟨o,xa,xb,xc,xv,xm,xw⟩ true n))∧Below w.heap.size w w':=by
 have hcv:IntKind.u64.wrap n=n:=by rw[IntKind.wrap_u64];omega
 rcases ho with rfl|rfl|rfl|rfl
 all_goals
  go_enter Tryz.func333,Tryz.ntmps333
  go_wp2
  go_ret
  exact ⟨by simp[numOk],(Below.refl _ _).alloc (Nat.le_refl _) _⟩
theorem fnum_k {o xa xb xc xv xm xw n:Int} (w:World) (hn:0≤n∧n≤4000) (ho:o=22):Calls Tryz.prog 333 #[.agg #[.int .i64 o, .int .i64 xa, .int .i64 xb, .int .i64 xc, .int .u64 xv, .int .i64 xm, .int .i64 xw], .bool true, .int .i64 n] w fun e w'=>e= .returned (.bool (numOk ⟨o,xa,xb,xc,xv,xm,xw⟩ true n))∧Below w.heap.size w w':=by
 subst ho
 all_goals
  go_enter Tryz.func333,Tryz.ntmps333
  go_wp2
  go_ret
  exact ⟨by simp[numOk],(Below.refl _ _).alloc (Nat.le_refl _) _⟩
theorem fnum_c {o xa xb xc xv xm xw n:Int} (w:World) (hn:0≤n∧n≤4000) (ho:o=3∨o=4∨o=5∨o=6∨o=7∨o=8∨o=9∨o=10∨o=11):Calls Tryz.prog 333 #[.agg #[.int .i64 o, .int .i64 xa, .int .i64 xb, .int .i64 xc, .int .u64 xv, .int .i64 xm, .int .i64 xw], .bool true, .int .i64 n] w fun e w'=>e= .returned (.bool (numOk ⟨o,xa,xb,xc,xv,xm,xw⟩ true n))∧Below w.heap.size w w':=by
 have hc:xc= -1∨(xc== -1)=false:=by
  by_cases h1:xc= -1
  ·exact Or.inl h1
  ·exact Or.inr (beq_eq_false_iff_ne.2 h1)
 rcases ho with rfl|rfl|rfl|rfl|rfl|rfl|rfl|rfl|rfl
 all_goals
  rcases hc with rfl|h3
  ·go_enter Tryz.func333,Tryz.ntmps333
   go_wp2
   go_ret
   exact ⟨by simp[numOk],(Below.refl _ _).alloc (Nat.le_refl _) _⟩
  ·go_enter Tryz.func333,Tryz.ntmps333
   go_wp2
   go_ret
   exact ⟨by simp[numOk,h3],(Below.refl _ _).alloc (Nat.le_refl _) _⟩
theorem fnum_v {o xa xb xc xv xm xw n:Int} (w:World) (hn:0≤n∧n≤4000) (ho:o=1∨o=17∨o=18∨o=19∨o=20∨o=21):Calls Tryz.prog 333 #[.agg #[.int .i64 o, .int .i64 xa, .int .i64 xb, .int .i64 xc, .int .u64 xv, .int .i64 xm, .int .i64 xw], .bool true, .int .i64 n] w fun e w'=>e= .returned (.bool (numOk ⟨o,xa,xb,xc,xv,xm,xw⟩ true n))∧Below w.heap.size w w':=by
 rcases ho with rfl|rfl|rfl|rfl|rfl|rfl
 all_goals
  go_enter Tryz.func333,Tryz.ntmps333
  go_wp2
  go_ret
  exact ⟨by simp[numOk],(Below.refl _ _).alloc (Nat.le_refl _) _⟩
theorem fnum_z {o xa xb xc xv xm xw n:Int} (w:World) (hn:0≤n∧n≤4000) (ho:o=2∨o=16):Calls Tryz.prog 333 #[.agg #[.int .i64 o, .int .i64 xa, .int .i64 xb, .int .i64 xc, .int .u64 xv, .int .i64 xm, .int .i64 xw], .bool false, .int .i64 n] w fun e w'=>e= .returned (.bool (numOk ⟨o,xa,xb,xc,xv,xm,xw⟩ false n))∧Below w.heap.size w w':=by
 rcases ho with rfl|rfl
 all_goals
  go_enter Tryz.func333,Tryz.ntmps333
  go_wp2
  go_ret
  exact ⟨by simp[numOk],(Below.refl _ _).alloc (Nat.le_refl _) _⟩
theorem fnum_any {o xa xb xc xv xm xw n:Int} (w:World) (hn:0≤n∧n≤4000) (ho:1≤o∧o≤22):Calls Tryz.prog 333 #[.agg #[.int .i64 o, .int .i64 xa, .int .i64 xb, .int .i64 xc, .int .u64 xv, .int .i64 xm, .int .i64 xw], .bool (hasV o), .int .i64 n] w fun e w'=>e= .returned (.bool (numOk ⟨o,xa,xb,xc,xv,xm,xw⟩ (hasV o) n))∧Below w.heap.size w w':=by
 have e:(o=12∨o=13∨o=14∨o=15)∨o=22∨(o=3∨o=4∨o=5∨o=6∨o=7∨o=8∨o=9∨o=10∨o=11)∨(o=1∨o=17∨o=18∨o=19∨o=20∨o=21)∨(o=2∨o=16):=by omega
 rcases e with e|e|e|e|e
 ·rw[show hasV o=true by rcases e with rfl|rfl|rfl|rfl<;>rfl];exact fnum_j w hn e
 ·rw[show hasV o=true by subst e;rfl];exact fnum_k w hn e
 ·rw[show hasV o=true by rcases e with rfl|rfl|rfl|rfl|rfl|rfl|rfl|rfl|rfl<;>rfl];exact fnum_c w hn e
 ·rw[show hasV o=true by rcases e with rfl|rfl|rfl|rfl|rfl|rfl<;>rfl];exact fnum_v w hn e
 ·rw[show hasV o=false by rcases e with rfl|rfl<;>rfl];exact fnum_z w hn e
end Go.Proofs.YtaangaogmnlljaaGreatDoor.Kn
namespace Go.Proofs.YtaangaogmnlljaaGreatDoor.Errs
open Go.RowKit Go.Extern.Stop Go.Stop Go.Extern
def ErrOut (w:World) (r:List (ByteArray×Int)) (k:Int) (e:Ending) (w':World):Prop:= ∃v,e= .returned v∧IsErr w' r k v∧Below w.heap.size w w'
def FailOut (w:World) (r:List (ByteArray×Int)) (k:Int) (e:Ending) (w':World):Prop:= ∃v,e= .returned v∧IsFail w' r k v∧Below w.heap.size w w'
def posixS:ByteArray:=⟨#[112,111,115,105,120]⟩
theorem posfail_any (n k:Int) (w:World):Calls Tryz.prog 29 #[.int .i64 n, .iface 86 (.int .i64 k)] w (ErrOut w [(posixS,n)] k):=by
 go_enter Tryz.func29,Tryz.ntmps29
 go_wp2
 go_ret
 refine ⟨_,rfl,⟨w.heap.size,_,rfl,by simp,?_,?_,?_,rfl⟩,(Below.refl _ _).alloc (Nat.le_refl _) _⟩
 all_goals simp[posixS]
theorem no_any (s:ByteArray) (n k:Int) (w:World):Calls Tryz.prog 39 #[.string s, .int .i64 n, .int .i64 k] w (FailOut w [(s,n)] k):=by
 go_enter Tryz.func39,Tryz.ntmps39
 go_wp2
 go_ret
 refine ⟨_,rfl,⟨w.heap.size+1+1,some ⟨w.heap.size,0,none⟩,some ⟨w.heap.size+1,0,none⟩,1,1,rfl,by simp,?_,?_,?_,?_⟩,?_⟩
 ·exact World.cell?_alloc_at _ _ _ _ (by simp)
 ·exact World.cell?_alloc_at _ _ _ _ (by simp)
 ·exact World.cell?_alloc_at _ _ _ _ (by simp)
 ·intro i s' n' hi
  match i,hi with
  |0,hi=>
   simp at hi
   obtain ⟨rfl,rfl⟩:=hi
   exact ⟨w.heap.size,0,w.heap.size+1,0,rfl,rfl,(by simp;try omega),(by simp;try omega),by rw[World.cell?_alloc_lt _ _ _ (by simp;try omega),World.cell?_alloc_lt _ _ _ (by simp)];exact World.cell?_alloc_at _ _ _ _ rfl,by rw[World.cell?_alloc_lt _ _ _ (by simp)];exact World.cell?_alloc_at _ _ _ _ (by simp)⟩
  |i+1,hi=>simp at hi
 ·repeat (first|exact Below.refl _ _|refine Below.alloc ?_ (by simp;try omega) _)
def kindOf (c:Int):Int:=if c=1∨c=11∨c=16∨c=35∨c=110 then 8 else if c=3∨c=38 then 7 else if c=12 then 3 else 1
theorem problem_ok (n:Int) (w:World):Calls Tryz.prog 38 #[.int .i64 n, .int .u64 0] w fun e w'=>e= .returned .nilIface∧w=w':=by
 go_enter Tryz.func38,Tryz.ntmps38
 go_wp2
 go_ret
 exact ⟨rfl,rfl⟩
theorem problem_err (n c:Int) (w:World) (hc:c≠0):Calls Tryz.prog 38 #[.int .i64 n, .int .u64 c] w (ErrOut w [(posixS,n)] (kindOf c)):=by
 have HF:=Lib.hid (fun k=>posfail_any n k w)
 by_cases h1:c=1∨c=11∨c=16∨c=35∨c=110∨c=3∨c=38∨c=12
 ·rcases h1 with rfl|rfl|rfl|rfl|rfl|rfl|rfl|rfl
  all_goals
   go_enter Tryz.func38,Tryz.ntmps38
   go_wp2_with (go_at_call 29;refine (HF.out _).mono ?_;rintro e w' ⟨v,rfl,hq1,hq2⟩)
   go_ret
   exact ⟨v,rfl,hq1,hq2⟩
 ·have hk:kindOf c=1:=by
   unfold kindOf
   rw[if_neg (by omega),if_neg (by omega),if_neg (by omega)]
  rw[hk]
  have b0:(c==0)=false:=by simp[hc]
  have b1:(c==1)=false:=by simp;omega
  have b2:(c==11)=false:=by simp;omega
  have b3:(c==16)=false:=by simp;omega
  have b4:(c==35)=false:=by simp;omega
  have b5:(c==110)=false:=by simp;omega
  have b6:(c==3)=false:=by simp;omega
  have b7:(c==38)=false:=by simp;omega
  have b8:(c==12)=false:=by simp;omega
  clear hk h1 hc
  go_enter Tryz.func38,Tryz.ntmps38
  go_wp2_with (go_at_call 29;refine (HF.out _).mono ?_;rintro e w' ⟨v,rfl,hq1,hq2⟩)
  go_ret
  exact ⟨v,rfl,hq1,hq2⟩
end Go.Proofs.YtaangaogmnlljaaGreatDoor.Errs
namespace Go.Proofs.YtaangaogmnlljaaGreatDoor.PosTab
open Go.RowKit
theorem ProgTab.cell {w:World} {b:Nat} (h:ProgTab w b) {k:Nat} {r:CRow} (hr:tab[k]?=some r) {j:Nat} {v:Value} (hj:r.prog[j]?=some v):w.cell? ⟨b,k*7+j,none⟩=some v:=by
 obtain ⟨fr,h⟩:=h
 have hj7:j<7:=by have:=(List.getElem?_eq_some_iff.1 hj).1;simpa[CRow.prog] using this
 have e:=flat_at CRow.prog 7 (fun _=>rfl) tab k j r hr hj7
 simp only[World.cell?,h]
 simpa[e] using hj
theorem RefTab.cell {w:World} {b:Nat} (h:RefTab w b) {k:Nat} {r:CRow} (hr:tab[k]?=some r) {j:Nat} {v:Value} (hj:r.ref[j]?=some v):w.cell? ⟨b,k*8+j,none⟩=some v:=by
 obtain ⟨fr,h⟩:=h
 have hj7:j<8:=by have:=(List.getElem?_eq_some_iff.1 hj).1;simpa[CRow.ref] using this
 have e:=flat_at CRow.ref 8 (fun _=>rfl) tab k j r hr hj7
 simp only[World.cell?,h]
 simpa[e] using hj
theorem ProgTab.below {w w':World} {b B:Nat} (h:ProgTab w b) (hb:Below B w w') (hB:b<B):ProgTab w' b:=by
 obtain ⟨fr,h⟩:=h
 exact ⟨fr,(hb.block b hB).trans h⟩
theorem RefTab.below {w w':World} {b B:Nat} (h:RefTab w b) (hb:Below B w w') (hB:b<B):RefTab w' b:=by
 obtain ⟨fr,h⟩:=h
 exact ⟨fr,(hb.block b hB).trans h⟩
theorem row_at {k:Nat} (h:k<45): ∃r,tab[k]?=some r:=⟨_,List.getElem?_eq_getElem (by rw[tab_len];exact h)⟩
def Box7 (w:World) (b:Nat) (v0 v1 v2 v3 v4 v5 v6:Value):Prop:=w.cell? ⟨b,0,none⟩=some v0∧w.cell? ⟨b,1,none⟩=some v1∧w.cell? ⟨b,2,none⟩=some v2∧w.cell? ⟨b,3,none⟩=some v3∧w.cell? ⟨b,4,none⟩=some v4∧w.cell? ⟨b,5,none⟩=some v5∧w.cell? ⟨b,6,none⟩=some v6∧ ∀o,w.frozen? ⟨b,o,none⟩=false
theorem Box7.new (w:World) (n:Nat) (h:n=w.heap.size) (t:TypeId) (v0 v1 v2 v3 v4 v5 v6:Value):Box7 (w.alloc (.cells #[v0,v1,v2,v3,v4,v5,v6] t)) n v0 v1 v2 v3 v4 v5 v6:=
 ⟨World.cell?_alloc_at _ _ _ _ h,World.cell?_alloc_at _ _ _ _ h,World.cell?_alloc_at _ _ _ _ h,World.cell?_alloc_at _ _ _ _ h,World.cell?_alloc_at _ _ _ _ h,World.cell?_alloc_at _ _ _ _ h,World.cell?_alloc_at _ _ _ _ h,fun _=>World.frozen?_alloc_at _ _ _ _ h⟩
theorem Box7.below {w w':World} {b B:Nat} {v0 v1 v2 v3 v4 v5 v6:Value} (h:Box7 w b v0 v1 v2 v3 v4 v5 v6) (hb:Below B w w') (hB:b<B):Box7 w' b v0 v1 v2 v3 v4 v5 v6:=by
 obtain ⟨h0,h1,h2,h3,h4,h5,h6,h7⟩:=h
 exact ⟨(hb.cell (p:=⟨b,0,none⟩) hB).trans h0,(hb.cell (p:=⟨b,1,none⟩) hB).trans h1,(hb.cell (p:=⟨b,2,none⟩) hB).trans h2,(hb.cell (p:=⟨b,3,none⟩) hB).trans h3,(hb.cell (p:=⟨b,4,none⟩) hB).trans h4,(hb.cell (p:=⟨b,5,none⟩) hB).trans h5,(hb.cell (p:=⟨b,6,none⟩) hB).trans h6,fun o=>(hb.frozen (p:=⟨b,o,none⟩) hB).trans (h7 o)⟩
def numOf:Option CRow→Int
 |some r=>r.num
 |none=>0
theorem num_any (s:ByteArray) (w:World):Calls Tryz.prog 37 #[.string s] w fun e w'=>e= .returned (.tuple #[.int .i64 (numOf (ofName s tab)), .bool (ofName s tab).isSome])∧Below w.heap.size w w':=by
 obtain ⟨o,ho⟩: ∃o,o=ofName s tab:=⟨_,rfl⟩
 rw[←ho]
 have HO:=Lib.hid ho
 clear ho
 go_enter Tryz.func37,Tryz.ntmps37
 go_wp2_with fail
 refine (table_any _).mono ?_
 rintro e w2 ⟨b,rfl,hb1,hb2,hT,hbw⟩
 have HT:=Lib.hid hT
 clear hT
 go_wp2
 go_loopw [8] (fun i wr=> ∃k:Nat,k≤45∧i= .int .i64 k∧Below w2.heap.size w2 wr∧Hid (∀j x,j<k→tab[j]?=some x→(x.name.toList==s.toList)=false)) (fun i _=>45 - (intOf i).toNat)
 case atStart=>exact ⟨0,by omega,rfl,Below.refl _ _,Lib.hid (fun j x hj=>by omega)⟩
 case round=>
  obtain ⟨k,hk,rfl,hb,HN⟩:=hrel
  have hsz:=hb.size
  have hwsz:=hbw.size
  have hlb:b<wr.heap.size:=by omega
  by_cases hlt:k<45
  ·obtain ⟨r,hr⟩:=row_at hlt
   have hP:=HT.out.below hb hb2
   have c0:wr.cell? ⟨b,k*7,none⟩=some (.int .i64 r.num):=hP.cell hr (j:=0) rfl
   have c1:wr.cell? ⟨b,k*7+1,none⟩=some (.string r.name):=hP.cell hr (j:=1) rfl
   have c2:wr.cell? ⟨b,k*7+2,none⟩=some (.string r.routine):=hP.cell hr (j:=2) rfl
   have c3:wr.cell? ⟨b,k*7+3,none⟩=some (.int .i64 r.k0):=hP.cell hr (j:=3) rfl
   have c4:wr.cell? ⟨b,k*7+4,none⟩=some (.int .i64 r.k1):=hP.cell hr (j:=4) rfl
   have c5:wr.cell? ⟨b,k*7+5,none⟩=some (.int .i64 r.k2):=hP.cell hr (j:=5) rfl
   have c6:wr.cell? ⟨b,k*7+6,none⟩=some (.int .i64 r.k3):=hP.cell hr (j:=6) rfl
   have HRr:=Lib.hid hr
   clear hP hr
   by_cases he:(r.name.toList==s.toList)=true
   ·have hof:=ofName_take HN.out HRr.out he
    rw[←HO.out] at hof
    have HF:=Lib.hid hof
    clear hof
    go_wp2
    go_ret2
    rw[HF.out]
    exact ⟨rfl,(hbw.trans (hb.mono (by omega))).alloc (by omega) _⟩
   ·have he':(r.name.toList==s.toList)=false:=by simpa using he
    clear he
    have HE:=Lib.hid he'
    go_wp2
    go_roundw
    case rel=>
     refine ⟨k+1,by omega,by go_num,hb.alloc (by omega) _,Lib.hid fun j x hj hx=>?_⟩
     by_cases e:j=k
     ·subst e
      rw[HRr.out] at hx
      cases hx
      exact HE.out
     ·exact HN.out j x (by omega) hx
    case measure=>simp[intOf];omega
  ·obtain rfl:k=45:=by omega
   have hof:o=none:=by rw[HO.out];exact ofName_none (by rw[tab_len];exact HN.out)
   subst hof
   go_wp2
   go_ret2
   exact ⟨rfl,hbw.trans (hb.mono (by omega))⟩
def Box8 (w:World) (b:Nat) (v0 v1 v2 v3 v4 v5 v6 v7:Value):Prop:=w.cell? ⟨b,0,none⟩=some v0∧w.cell? ⟨b,1,none⟩=some v1∧w.cell? ⟨b,2,none⟩=some v2∧w.cell? ⟨b,3,none⟩=some v3∧w.cell? ⟨b,4,none⟩=some v4∧w.cell? ⟨b,5,none⟩=some v5∧w.cell? ⟨b,6,none⟩=some v6∧w.cell? ⟨b,7,none⟩=some v7∧ ∀o,w.frozen? ⟨b,o,none⟩=false
theorem Box8.new (w:World) (n:Nat) (h:n=w.heap.size) (t:TypeId) (v0 v1 v2 v3 v4 v5 v6 v7:Value):Box8 (w.alloc (.cells #[v0,v1,v2,v3,v4,v5,v6,v7] t)) n v0 v1 v2 v3 v4 v5 v6 v7:=
 ⟨World.cell?_alloc_at _ _ _ _ h,World.cell?_alloc_at _ _ _ _ h,World.cell?_alloc_at _ _ _ _ h,World.cell?_alloc_at _ _ _ _ h,World.cell?_alloc_at _ _ _ _ h,World.cell?_alloc_at _ _ _ _ h,World.cell?_alloc_at _ _ _ _ h,World.cell?_alloc_at _ _ _ _ h,fun _=>World.frozen?_alloc_at _ _ _ _ h⟩
theorem Box8.below {w w':World} {b B:Nat} {v0 v1 v2 v3 v4 v5 v6 v7:Value} (h:Box8 w b v0 v1 v2 v3 v4 v5 v6 v7) (hb:Below B w w') (hB:b<B):Box8 w' b v0 v1 v2 v3 v4 v5 v6 v7:=by
 obtain ⟨h0,h1,h2,h3,h4,h5,h6,h7,h8⟩:=h
 exact ⟨(hb.cell (p:=⟨b,0,none⟩) hB).trans h0,(hb.cell (p:=⟨b,1,none⟩) hB).trans h1,(hb.cell (p:=⟨b,2,none⟩) hB).trans h2,(hb.cell (p:=⟨b,3,none⟩) hB).trans h3,(hb.cell (p:=⟨b,4,none⟩) hB).trans h4,(hb.cell (p:=⟨b,5,none⟩) hB).trans h5,(hb.cell (p:=⟨b,6,none⟩) hB).trans h6,(hb.cell (p:=⟨b,7,none⟩) hB).trans h7,fun o=>(hb.frozen (p:=⟨b,o,none⟩) hB).trans (h8 o)⟩
end Go.Proofs.YtaangaogmnlljaaGreatDoor.PosTab
namespace Go.Proofs.YtaangaogmnlljaaGreatDoor.PosTab
open Go.RowKit Errs
theorem lock_row:ofName ⟨#[109,117,116,101,120,32,108,111,99,107]⟩ tab=some ⟨12,⟨#[109,117,116,101,120,32,108,111,99,107]⟩,⟨#[99,109,108,111,99,107]⟩,18,1,0,0,0⟩:=by kernel_rfl
theorem awake_true (w:World) (hd:Door w):Calls Tryz.prog 12 #[] w fun e w'=>e= .returned (.bool true)∧Below w.heap.size w w':=by
 have HN:=Lib.hid (num_any ⟨#[109,117,116,101,120,32,108,111,99,107]⟩ w)
 rw[lock_row] at HN
 have HD:=Lib.hid hd
 clear hd
 go_enter Tryz.func12,Tryz.ntmps12
 go_wp2_with fail
 refine HN.out.mono ?_
 rintro e w1 ⟨rfl,hb1⟩
 simp only[numOf,Option.isSome_some]
 go_wp2_with fail
 refine (problem_err 13 16 _ (by decide)).mono ?_
 rintro e w2 ⟨v,rfl,hv,hb2⟩
 have HV:=Lib.hid hv
 obtain ⟨vt,vx,rfl⟩:=hv.form
 clear hv
 go_wp2_with fail
 refine (no_any posixS 13 8 _).mono ?_
 rintro e w3 ⟨f,rfl,hf,hb3⟩
 have hs1:=hb1.size
 have hs2:=hb2.size
 have hs3:=hb3.size
 have hp:=door_pos HD.out
 have D3:Door w3:=((HD.out.below hb1 hp).below hb2 (by omega)).below hb3 (by omega)
 have HS:=Lib.hid (same_true _ f [(posixS,13)] 8 w3 (HV.out.below hb3) hf D3 (by decide) (by decide) (by decide))
 have hk:kindOf 16=8:=rfl
 clear hf D3 hk
 go_wp2_with fail
 refine HS.out.mono ?_
 rintro e w4 ⟨rfl,hb4⟩
 go_wp2_with fail
 refine (problem_ok 13 _).mono ?_
 rintro e w5 ⟨rfl,rfl⟩
 go_wp2
 go_ret
 exact ⟨rfl,((hb1.trans (hb2.mono hs1)).trans (hb3.mono (by omega))).trans (hb4.mono (by omega))⟩
end Go.Proofs.YtaangaogmnlljaaGreatDoor.PosTab
namespace Go.Proofs.YtaangaogmnlljaaGreatDoor.Kn
open Go.RowKit Go.Maps Asm
theorem rbucket0 {w:World} {Q:Nat} (h:w.heap[Q]?=some (.cells #[.slice none 0 0, .int .i64 8] 353 (0,0))) (b:Int):Calls Tryz.prog 115 #[.pointer (some ⟨Q,0,none⟩), .int .i64 b] w fun e w'=>e= .returned (.slice none 0 0)∧w=w':=by
 have c0:w.cell? ⟨Q,0,none⟩=some (.slice none 0 0):=blk_cell h 0
 clear h
 go_enter Tryz.func115,Tryz.ntmps115
 exact m46
section
variable {F:Fixed} {cells:Nat} {entry:Int} {w:World} {G:RG}
theorem Fresh.kcell (h:Fresh F cells entry w G): ∃rv wv,w.heap[G.K]?=some (kO F cells entry G.lv G.cv G.pv (ptrV G.X) (ptrV G.A) (ptrV G.Q) (ptrV G.R) (ptrV G.T) (ptrV G.O) rv wv):=by
 obtain ⟨rv,wv,h1,-,-⟩:=h.obj
 exact ⟨rv,wv,h1⟩
theorem rwaiting0 (h:Fresh F cells entry w G):Calls Tryz.prog 50 #[.pointer (some ⟨G.K,0,none⟩)] w fun e w'=>e= .returned (.slice none 0 0)∧w=w':=by
 obtain ⟨rv,wv,ho⟩:=h.kcell
 have k14:w.cell? ⟨G.K,14,none⟩=some (.pointer (some ⟨G.Q,0,none⟩)):=blk_cell ho 14
 have HB:=Lib.hid (fun b=>rbucket0 h.que b)
 clear h ho
 go_enter Tryz.func50,Tryz.ntmps50
 go_wp2_with fail
 go_loopg [3,4] 8 (fun gg lv iv wr=> ∃i:Nat,i≤8∧gg=8 - i∧lv= .slice none 0 0∧iv= .int .i64 (i:Int)∧w=wr)
 case atStart=>exact ⟨0,by omega,rfl,rfl,rfl,rfl⟩
 case round=>
  obtain ⟨i,hi,hgg,rfl,rfl,rfl⟩:=hrel
  have hiI:(0:Int)≤(i:Int)∧(i:Int)≤8:=by omega
  by_cases hlt:i<8
  ·have hltI:(i:Int)<8:=by omega
   have Hg:=Lib.hid (And.intro hgg hlt)
   clear hgg hlt hi
   go_wp2_with (first|(go_at_call 115;refine (HB.out _).mono ?_;rintro e w1 ⟨rfl,rfl⟩))
   exact m93
  ·obtain rfl:i=8:=by omega
   go_wp2_with fail
   go_ret
   exact ⟨rfl,rfl⟩
theorem rused0 (h:Fresh F cells entry w G):Calls Tryz.prog 43 #[.pointer (some ⟨G.A,0,none⟩)] w fun e w'=>e= .returned (.int .i64 1)∧w=w':=by
 obtain ⟨v,ha,hr⟩:=h.alc
 obtain ⟨g,c,rfl,hc⟩: ∃g c,v= .slice (some ⟨g,0,none⟩) 1 c∧ ∀i u,([.int .i64 (loN F), .int .i64 1, .int .i64 64]:List Value)[i]?=some u→w.cell? ⟨g,i,none⟩=some u:=by
  rcases row_at hr with ⟨h1,-,h3⟩ |⟨g,c,rfl,hc⟩
  ·cases h3
  ·exact ⟨g,c,rfl,fun i u hu=>by have:=hc i u hu;rwa[Addr.add_lit,Nat.zero_add] at this⟩
 have c3:w.cell? ⟨G.A,3,none⟩=some (.slice (some ⟨g,0,none⟩) 1 c):=blk_cell ha 3
 have x1:w.cell? ⟨g,1,none⟩=some (.int .i64 1):=hc 1 _ rfl
 clear h ha hr hc
 go_enter Tryz.func43,Tryz.ntmps43
 go_wp2_with fail
 refine wp_loop_rounds 2 ?_
 rw[rounds_succ]
 go_wp2_with fail
 rw[rounds_succ]
 go_wp2_with fail
 go_ret
 exact ⟨rfl,rfl⟩
theorem robjall0 {O go gk N:Nat} (h:RObjP w O go gk (List.replicate 64 {}) N):Calls Tryz.prog 118 #[.pointer (some ⟨O,0,none⟩)] w fun e w'=>e= .returned (.slice none 0 0)∧w=w':=by
 have c0:w.cell? ⟨O,0,none⟩=some (.slice (some ⟨go,0,none⟩) 64 64):=blk_cell h.obj 0
 have HX:Hid (∀i:Nat,i<64→w.cell? ⟨go,i*3,none⟩=some (.int .u64 0)):=Lib.hid fun i hi=>by
  refine (blk_cell h.row (i*3)).trans ?_
  have e:=flL_at (k:=3) (f:=or3) (fun _=>rfl) (List.replicate 64 ({}:ORow)) i (by simpa using hi) 0 (by decide)
  rw[List.getElem?_toArray]
  exact e.trans (by rw[List.getElem_replicate];rfl)
 clear h
 go_enter Tryz.func118,Tryz.ntmps118
 go_wp2_with fail
 go_loopg [3,4] 64 (fun gg lv iv wr=> ∃i:Nat,i≤64∧gg=64 - i∧lv= .slice none 0 0∧iv= .int .i64 (i:Int)∧w=wr)
 case atStart=>exact ⟨0,by omega,rfl,rfl,rfl,rfl⟩
 case round=>
  obtain ⟨i,hi,hgg,rfl,rfl,rfl⟩:=hrel
  have hiI:(0:Int)≤(i:Int)∧(i:Int)≤64:=by omega
  by_cases hlt:i<64
  ·have hltI:(i:Int)<64:=by omega
   have x0:=HX.out i hlt
   have Hg:=Lib.hid (And.intro hgg hlt)
   clear hgg hlt hi
   go_wp2_with fail
   go_roundg (64 - (i+1))
   case measure=>have:=Hg.out;omega
   case rel=>exact ⟨i+1,by have:=Hg.out;omega,rfl,rfl,by go_num,rfl⟩
  ·obtain rfl:i=64:=by omega
   go_wp2_with fail
   go_ret
   exact ⟨rfl,rfl⟩
theorem rhandles0 (h:Fresh F cells entry w G):Calls Tryz.prog 51 #[.pointer (some ⟨G.K,0,none⟩)] w fun e w'=>e= .returned (.slice none 0 0)∧w=w':=by
 obtain ⟨rv,wv,ho⟩:=h.kcell
 have k17:w.cell? ⟨G.K,17,none⟩=some (.pointer (some ⟨G.O,0,none⟩)):=blk_cell ho 17
 have HB:=Lib.hid (robjall0 h.objs)
 clear h ho
 go_enter Tryz.func51,Tryz.ntmps51
 go_wp2_with fail
 refine HB.out.mono ?_
 rintro e w1 ⟨rfl,rfl⟩
 exact m46
theorem rworker_out (h:Fresh F cells entry w G) (i:Int) (hi:i<0∨(0≤i∧(F.workers:Int)≤i)):Calls Tryz.prog 56 #[.pointer (some ⟨G.K,0,none⟩), .int .i64 i] w fun e w'=>e= .returned (.tuple #[wkz, .bool false])∧Below w.heap.size w w':=by
 obtain ⟨rv,wv,ho,-,hr⟩:=h.obj
 obtain ⟨A,c,rfl⟩:=Asm.own_shape hr
 have k:w.cell? ⟨G.K,19,none⟩=some (.slice A F.workers c):=blk_cell ho 19
 have hK:=blk_in ho
 clear h ho hr
 rcases hi with hi|⟨h1,h2⟩
 all_goals
  go_enter Tryz.func56,Tryz.ntmps56
  go_wp2_with fail
  refine bodyPost_ret (v:= .tuple #[wkz, .bool false]) (by simp[results,Tryz.results56,go_sem,wkz]) rfl ⟨rfl,?_⟩
  exact (Below.refl _ _).alloc (Nat.le_refl _) _
theorem wrow_at {v:Value} {m:Nat} (hr:w.ownsRow 0 218 1 v m (wptrs G m)) {i:Nat} (hi:i<m): ∃g c,v= .slice (some ⟨g,0,none⟩) m c∧w.cell? ⟨g,i,none⟩=some (ptrV (G.kb i))∧g<w.heap.size:=by
 have hu:(wptrs G m)[i]?=some (ptrV (G.kb i)):=by unfold wptrs;rw[List.getElem?_map,List.getElem?_range hi];rfl
 rcases row_at hr with ⟨-,-,h3⟩ |⟨g,c,rfl,hc⟩
 ·rw[h3] at hu;simp at hu
 ·refine ⟨g,c,rfl,?_,(hr.lt g rfl).2⟩
  have:=hc i _ hu
  rwa[Addr.add_lit,Nat.zero_add] at this
theorem rworker_in (h:Fresh F cells entry w G) {i:Nat} (hi:i<F.workers) (hw:F.workers≤64):Calls Tryz.prog 56 #[.pointer (some ⟨G.K,0,none⟩), .int .i64 (i:Int)] w fun e w'=>e= .returned (.tuple #[wk5 (wkr0 F), .bool true])∧Below w.heap.size w w':=by
 obtain ⟨rv,wv,ho,-,hr⟩:=h.obj
 have hK:=blk_in ho
 have hd:=h.wk i hi
 obtain ⟨g,c,rfl,kg,hgl⟩:=wrow_at hr hi
 unfold ptrV at kg
 have k:w.cell? ⟨G.K,19,none⟩=some (.slice (some ⟨g,0,none⟩) F.workers c):=blk_cell ho 19
 have x0:w.cell? ⟨G.kb i,0,none⟩=some (.int .u64 0):=blk_cell hd 0
 have x1:w.cell? ⟨G.kb i,1,none⟩=some (.int .u64 0):=blk_cell hd 1
 have x2:w.cell? ⟨G.kb i,2,none⟩=some (.bool false):=blk_cell hd 2
 have x3:w.cell? ⟨G.kb i,3,none⟩=some (.int .i64 0):=blk_cell hd 3
 have x4:w.cell? ⟨G.kb i,4,none⟩=some (.int .i64 F.loop):=blk_cell hd 4
 have hb:=blk_in hd
 have hiI:(0:Int)≤(i:Int)∧(i:Int)<(F.workers:Int):=by omega
 have hwI:(F.workers:Int)≤64:=by omega
 clear h ho hr hd
 generalize G.kb i=kb at*
 go_enter Tryz.func56,Tryz.ntmps56
 go_wp2_with fail
 go_region
 go_wp2_with fail
 refine bodyPost_ret (v:= .tuple #[wk5 (wkr0 F), .bool true]) (by simp[results,Tryz.results56,go_sem,wk5,wkr0]) rfl ⟨rfl,?_⟩
 exact dn_below ((Below.refl _ _).alloc (Nat.le_refl _) _) 1
theorem rrow1_at {v:Value} {e:TypeId} {u:Value} (hr:w.ownsRow 0 e 1 v 1 [u]): ∃g c,v= .slice (some ⟨g,0,none⟩) 1 c∧w.cell? ⟨g,0,none⟩=some u∧g<w.heap.size:=by
 rcases row_at hr with ⟨h1,-,h3⟩ |⟨g,c,rfl,hc⟩
 ·cases h3
 ·refine ⟨g,c,rfl,?_,(hr.lt g rfl).2⟩
  have:=hc 0 u rfl
  rwa[Addr.add_lit,Nat.zero_add] at this
theorem rrun0 (h:Fresh F cells entry w G):Calls Tryz.prog 119 #[.pointer (some ⟨G.K,0,none⟩), .int .u64 64] w fun e w'=>e= .returned (.pointer (some ⟨G.tb 64,0,none⟩))∧w=w':=by
 obtain ⟨rv,wv,ho,hr,-⟩:=h.obj
 obtain ⟨g,c,rfl,kg,-⟩:=rrow1_at hr
 unfold ptrV at kg
 obtain ⟨lv,hl,-,-⟩:=h.run
 have k:w.cell? ⟨G.K,18,none⟩=some (.slice (some ⟨g,0,none⟩) 1 c):=blk_cell ho 18
 have x0:w.cell? ⟨G.tb 64,0,none⟩=some (.int .u64 64):=blk_cell hl 0
 clear h ho hr hl
 generalize G.tb 64=tb at*
 go_enter Tryz.func119,Tryz.ntmps119
 exact m46
set_option maxRecDepth 100000 in
theorem rplaces0 (h:Fresh F cells entry w G):Calls Tryz.prog 54 #[.pointer (some ⟨G.K,0,none⟩), .int .u64 64] w fun e w'=> ∃v,e= .returned v∧w'.ownsRow w.heap.size 3 1 v 1 [.int .i64 entry]∧Below w.heap.size w w':=by
 have HR:=Lib.hid (rrun0 h)
 obtain ⟨lv,hl,hr,hf⟩:=h.run
 obtain ⟨g,c,rfl,kg,hgl⟩:=rrow1_at hr
 unfold ptrV at kg
 have x1:w.cell? ⟨G.tb 64,1,none⟩=some (.slice (some ⟨g,0,none⟩) 1 c):=blk_cell hl 1
 have f0:w.cell? ⟨G.fb 64 0,0,none⟩=some (.int .i64 entry):=blk_cell hf 0
 have f1:w.cell? ⟨G.fb 64 0,34,none⟩=some (.bool false):=blk_cell hf 34
 have htl:=blk_in hl
 have hfl:=blk_in hf
 clear h hl hr hf
 generalize G.tb 64=tb at*
 generalize G.fb 64 0=fb at*
 have hz1:=heap_alloc_new w (.cells #[.int .i64 entry] 3)
 have hb1:Below w.heap.size w (w.alloc (.cells #[.int .i64 entry] 3)):=(Below.refl _ _).alloc (Nat.le_refl _) _
 obtain ⟨v',w3,hrun,hown,hg,-⟩:=appT (w:=w.alloc (.cells #[.int .i64 entry] 3)) w.heap.size 89 89 3 1 8 Tryz.underlying89 (by kernel_rfl) (by decide) (by decide) (row_at0 _ w.heap.size _ _) (row_one' (base:=0) hz1 (Nat.zero_le _)) (fun u hu=>by simp at hu;subst hu;rfl) (by decide) (by simp)
 have hbe:Below w.heap.size w w3:=hb1.grown hg (by simp) fun k e=>by cases e
 have x1':=(hbe.cell (p:=⟨tb,1,none⟩) htl).trans x1
 obtain ⟨A3,c3,rfl⟩:=Asm.own_shape hown
 have HRun:=Lib.hid hrun
 have HN:=Lib.hid (And.intro hown hbe)
 clear hz1 hb1 hrun hown hg hbe
 go_enter Tryz.func54,Tryz.ntmps54
 go_wp2_with fail
 refine HR.out.mono ?_
 rintro e w1 ⟨rfl,rfl⟩
 go_wp2_with fail
 refine wp_loop_rounds 2 ?_
 rw[rounds_succ]
 go_wp2_with (at_builtin;refine Go.Lib.wpList_append_run _ rfl (.tmp 48) (.tmp 50) 89 89 rfl _ _ rfl rfl _ _ HRun.out ?_)
 rw[rounds_succ]
 go_wp2_with fail
 go_ret
 exact ⟨_,rfl,HN.out.1,HN.out.2⟩
end
end Go.Proofs.YtaangaogmnlljaaGreatDoor.Kn
namespace Go.Proofs.YtaangaogmnlljaaGreatDoor.Kn
open Go.RowKit Go.Maps Asm
theorem decks_at (m:Mem) (n:Nat) (hl:17+8*n≤m.hs.length): ∀k,k≤n→ ∀i,i<k→(decksL m n k).hs[17+3*i]?=some 1∧(decksL m n k).hs[17+3*i+1]?=some 1∧(decksL m n k).hs[17+3*i+2]?=some (17+3* (n:Int)+5* (i:Int))∧(decksL m n k).hs[17+3*n+5*i]?=some 4
 |0,_,i,hi=>absurd hi (Nat.not_lt_zero _)
 |k+1,hk,i,hi=>by
  have e:(decksL m n (k+1)).hs=((((decksL m n k).hs.set (17+3*k) 1).set (17+3*k+1) 1).set (17+3*k+2) (17+3* (n:Int)+5* (k:Int))).set (17+3*n+5*k) 4:=by
   show (((((decksL m n k).hs.set (17+3* (k:Int)).toNat 1).set (17+3* (k:Int)+1).toNat 1).set (17+3* (k:Int)+2).toNat _).set (17+3* (n:Int)+5* (k:Int)).toNat 4)=_
   rw[show (17+3* (k:Int)).toNat=17+3*k by omega,show (17+3* (k:Int)+1).toNat=17+3*k+1 by omega,show (17+3* (k:Int)+2).toNat=17+3*k+2 by omega,show (17+3* (n:Int)+5* (k:Int)).toNat=17+3*n+5*k by omega]
  have hL:(decksL m n k).hs.length=m.hs.length:=decks_len m n k
  rw[e]
  by_cases hik:i=k
  ·subst hik
   refine ⟨?_,?_,?_,?_⟩
   ·rw[List.getElem?_set_ne (by omega),List.getElem?_set_ne (by omega),List.getElem?_set_ne (by omega),List.getElem?_set_self (by omega)]
   ·rw[List.getElem?_set_ne (by omega),List.getElem?_set_ne (by omega),List.getElem?_set_self (by rw[List.length_set];omega)]
   ·rw[List.getElem?_set_ne (by omega),List.getElem?_set_self (by rw[List.length_set,List.length_set];omega)]
   ·rw[List.getElem?_set_self (by rw[List.length_set,List.length_set,List.length_set];omega)]
  ·obtain ⟨h1,h2,h3,h4⟩:=decks_at m n hl k (by omega) i (by omega)
   refine ⟨?_,?_,?_,?_⟩
   ·rw[List.getElem?_set_ne (by omega),List.getElem?_set_ne (by omega),List.getElem?_set_ne (by omega),List.getElem?_set_ne (by omega)];exact h1
   ·rw[List.getElem?_set_ne (by omega),List.getElem?_set_ne (by omega),List.getElem?_set_ne (by omega),List.getElem?_set_ne (by omega)];exact h2
   ·rw[List.getElem?_set_ne (by omega),List.getElem?_set_ne (by omega),List.getElem?_set_ne (by omega),List.getElem?_set_ne (by omega)];exact h3
   ·rw[List.getElem?_set_ne (by omega),List.getElem?_set_ne (by omega),List.getElem?_set_ne (by omega),List.getElem?_set_ne (by omega)];exact h4
theorem fill_low {l:List Int} {a n j:Nat} {v:Int} (h:j<a) (hl:a≤l.length):(fillL l a n v)[j]?=l[j]?:=by
 unfold fillL
 rw[List.append_assoc,List.getElem?_append_left (by simp;omega),List.getElem?_take,if_pos h]
theorem map_low {m:Mem} {a n j:Nat} {v:Int} (h:j<a) (hl:a≤m.hs.length) (hw:a≤m.ws.length):(m.map a n v).hs[j]?=m.hs[j]?∧(m.map a n v).ws[j]?=m.ws[j]?:=⟨fill_low h hl,fill_low h hw⟩
theorem mapIf_low {m:Mem} {a n j:Nat} {v:Int} (h:j<a) (hl:a≤m.hs.length) (hw:a≤m.ws.length):(mapIf m a n v).hs[j]?=m.hs[j]?∧(mapIf m a n v).ws[j]?=m.ws[j]?:=by
 unfold mapIf
 split
 ·exact map_low h hl hw
 ·exact ⟨rfl,rfl⟩
theorem mapIf_ws {m:Mem} {a n:Nat} {v:Int} (hl:a+n≤m.ws.length):(mapIf m a n v).ws.length=m.ws.length:=by
 unfold mapIf
 split
 ·unfold Mem.map fillL;simp;omega
 ·rfl
theorem decks_ws (m:Mem) (n:Nat): ∀k,(decksL m n k).ws=m.ws
 |0=>rfl
 |k+1=>decks_ws m n k
def newM (F:Fixed) (cells:Nat):Mem:=(laidM F cells).map (loN F) 1 64
theorem newM_low {F:Fixed} {cells:Nat} (h:loN F+1≤cells) {j:Nat} (hj:j<baseN F):(newM F cells).hs[j]?=(decksL ((mem0 cells).map 0 (baseN F) 64) F.workers F.workers).hs[j]?∧(newM F cells).ws[j]?=some 64:=by
 have h':=h
 unfold loN at h'
 have l0:((mem0 cells).map 0 (baseN F) 64).hs.length=cells:=by unfold Mem.map fillL mem0;simp;omega
 have w0:((mem0 cells).map 0 (baseN F) 64).ws.length=cells:=by unfold Mem.map fillL mem0;simp;omega
 have l1:(decksL ((mem0 cells).map 0 (baseN F) 64) F.workers F.workers).hs.length=cells:=by rw[decks_len,l0]
 have w1:(decksL ((mem0 cells).map 0 (baseN F) 64) F.workers F.workers).ws.length=cells:=by rw[decks_ws,w0]
 have l2:(mapIf (decksL ((mem0 cells).map 0 (baseN F) 64) F.workers F.workers) (baseN F) F.wide.toNat 64).hs.length=cells:=by rw[mapIf_len (by rw[l1];omega),l1]
 have w2:(mapIf (decksL ((mem0 cells).map 0 (baseN F) 64) F.workers F.workers) (baseN F) F.wide.toNat 64).ws.length=cells:=by rw[mapIf_ws (by rw[w1];omega),w1]
 have l3:(laidM F cells).hs.length=cells:=(mapIf_len (m:=mapIf (decksL ((mem0 cells).map 0 (baseN F) 64) F.workers F.workers) (baseN F) F.wide.toNat 64) (a:=baseN F+F.wide.toNat) (n:=F.narrow.toNat) (wd:=32) (by rw[l2];omega)).trans l2
 have w3:(laidM F cells).ws.length=cells:=(mapIf_ws (m:=mapIf (decksL ((mem0 cells).map 0 (baseN F) 64) F.workers F.workers) (baseN F) F.wide.toNat 64) (a:=baseN F+F.wide.toNat) (n:=F.narrow.toNat) (v:=32) (by rw[w2];omega)).trans w2
 have a1:=map_low (m:=laidM F cells) (a:=loN F) (n:=1) (v:=64) (j:=j) (by unfold loN;omega) (by rw[l3];omega) (by rw[w3];omega)
 have a2:=mapIf_low (m:=mapIf (decksL ((mem0 cells).map 0 (baseN F) 64) F.workers F.workers) (baseN F) F.wide.toNat 64) (a:=baseN F+F.wide.toNat) (n:=F.narrow.toNat) (v:=32) (j:=j) (by omega) (by rw[l2];omega) (by rw[w2];omega)
 have a3:=mapIf_low (m:=decksL ((mem0 cells).map 0 (baseN F) 64) F.workers F.workers) (a:=baseN F) (n:=F.wide.toNat) (v:=64) (j:=j) hj (by rw[l1];omega) (by rw[w1];omega)
 refine ⟨a1.1.trans (a2.1.trans a3.1),a1.2.trans (a2.2.trans (a3.2.trans ?_))⟩
 rw[decks_ws]
 unfold Mem.map fillL
 simp only[List.take_zero,List.nil_append]
 rw[List.getElem?_append_left (by simpa using hj),List.getElem?_replicate,if_pos hj]
theorem newM_deck {F:Fixed} {cells:Nat} (h:loN F+1≤cells) {i:Nat} (hi:i<F.workers):
  (newM F cells).hs[17+3*i]?=some 1∧(newM F cells).hs[17+3*i+1]?=some 1∧(newM F cells).hs[17+3*i+2]?=some (17+3* (F.workers:Int)+5* (i:Int))∧(newM F cells).hs[17+3*F.workers+5*i]?=some 4:=by
 have h':=h
 unfold loN baseN at h'
 have l0:((mem0 cells).map 0 (baseN F) 64).hs.length=cells:=by unfold Mem.map fillL mem0 baseN;simp;omega
 obtain ⟨h1,h2,h3,h4⟩:=decks_at ((mem0 cells).map 0 (baseN F) 64) F.workers (by rw[l0];omega) F.workers (Nat.le_refl _) i hi
 exact ⟨(newM_low h (by unfold baseN;omega)).1.trans h1,(newM_low h (by unfold baseN;omega)).1.trans h2,(newM_low h (by unfold baseN;omega)).1.trans h3,(newM_low h (by unfold baseN;omega)).1.trans h4⟩
theorem getD_of {l:List Int} {j:Nat} {v:Int} (h:l[j]?=some v):l.getD j 0=v:=by rw[List.getD_eq_getElem?_getD,h];rfl
section
variable {F:Fixed} {cells:Nat} {entry:Int} {w:World} {G:RG}
theorem Fresh.hs (h:Fresh F cells entry w G) {j:Nat} {v:Int} (hv:(newM F cells).hs[j]?=some v):w.cell? ⟨G.gh,j,none⟩=some (.int .u64 v)∧j<(newM F cells).hs.length:=by
 have hj:j<(newM F cells).hs.length:=by
  rcases Nat.lt_or_ge j (newM F cells).hs.length with h|h
  ·exact h
  ·rw[List.getElem?_eq_none h] at hv;cases hv
 exact ⟨by have:=(h.mem.hcell (a:=j) hj).1;rw[show ((laidM F cells).map (loN F) 1 64).hs.getD j 0=v from getD_of hv] at this;exact this,hj⟩
theorem Fresh.ws (h:Fresh F cells entry w G) (hr:loN F+1≤cells) {j:Nat} (hj:j<baseN F):w.cell? ⟨G.gw,j,none⟩=some (.int .i64 64):=by
 have hv:=(newM_low hr hj).2
 have hl:j<(newM F cells).hs.length:=by
  rcases Nat.lt_or_ge j (newM F cells).ws.length with h'|h'
  ·have:=h.mem.ok.len;show _<((laidM F cells).map (loN F) 1 64).hs.length;rw[←this];exact h'
  ·rw[List.getElem?_eq_none h'] at hv;cases hv
 have:=(h.mem.wcell (a:=j) hl).1
 rw[show ((laidM F cells).map (loN F) 1 64).ws.getD j 0=64 from getD_of hv] at this
 exact this
theorem rcell0 (h:Fresh F cells entry w G) (hr:loN F+1≤cells) (_:cells≤65536) {j:Nat} {v:Int} (hj:j<baseN F) (hv:(newM F cells).hs[j]?=some v):Calls Tryz.prog 67 #[.pointer (some ⟨G.K,0,none⟩), .int .u64 (j:Int)] w fun e w'=>e= .returned (.tuple #[.int .u64 v, .bool true])∧w=w':=by
 obtain ⟨rv,wv,ho⟩:=h.kcell
 have k9:w.cell? ⟨G.K,9,none⟩=some (.pointer (some ⟨G.X,0,none⟩)):=blk_cell ho 9
 obtain ⟨n,hn⟩: ∃n,n=(newM F cells).hs.length:=⟨_,rfl⟩
 obtain ⟨c0,c1⟩:=h.mem.cells (z:=n) hn.symm
 have hw:=h.ws hr hj
 obtain ⟨hh,hl⟩:=h.hs hv
 have hnm:n≤65536:=by have:=h.mem.ok.most;rw[hn];exact this
 have hjI:(0:Int)≤(j:Int)∧(j:Int)<(n:Int)∧(n:Int)≤65536:=by omega
 have hcv:IntKind.u64.wrap (n:Int)=(n:Int):=by rw[IntKind.wrap_u64];omega
 clear h ho hn hl hv hj hr hnm
 go_enter Tryz.func67,Tryz.ntmps67
 go_wp2_with (first|go_in|fail)
 go_ret2
 exact ⟨rfl,rfl⟩
theorem rdeque_out (h:Fresh F cells entry w G) (i:Int) (hi:i<0∨(0≤i∧(F.workers:Int)≤i)):Calls Tryz.prog 58 #[.pointer (some ⟨G.K,0,none⟩), .int .i64 i] w fun e w'=>e= .returned (.tuple #[.int .u64 0, .int .u64 0, .slice none 0 0])∧w=w':=by
 obtain ⟨rv,wv,ho,-,hr⟩:=h.obj
 obtain ⟨A,c,rfl⟩:=Asm.own_shape hr
 have k:w.cell? ⟨G.K,19,none⟩=some (.slice A F.workers c):=blk_cell ho 19
 clear h ho hr
 rcases hi with hi|⟨h1,h2⟩
 all_goals
  go_enter Tryz.func58,Tryz.ntmps58
  go_wp2_with fail
  refine bodyPost_ret (v:= .tuple #[.int .u64 0, .int .u64 0, .slice none 0 0]) (by simp[results,Tryz.results58,go_sem]) rfl ⟨rfl,rfl⟩
set_option maxRecDepth 100000 in
theorem rdeque_in (h:Fresh F cells entry w G) (hr:loN F+1≤cells) (hc:cells≤65536) (hw:F.workers≤64) {i:Nat} (hi:i<F.workers):Calls Tryz.prog 58 #[.pointer (some ⟨G.K,0,none⟩), .int .i64 (i:Int)] w fun e w'=>e= .returned (.tuple #[.int .u64 1, .int .u64 1, .slice none 0 0])∧w'=w.drew:=by
 obtain ⟨rv,wv,ho,-,hrw⟩:=h.obj
 obtain ⟨A,c,rfl⟩:=Asm.own_shape hrw
 have k19:w.cell? ⟨G.K,19,none⟩=some (.slice A F.workers c):=blk_cell ho 19
 have k9:w.cell? ⟨G.K,9,none⟩=some (.pointer (some ⟨G.X,0,none⟩)):=blk_cell ho 9
 obtain ⟨n,hn⟩: ∃n,n=(newM F cells).hs.length:=⟨_,rfl⟩
 obtain ⟨-,c1⟩:=h.mem.cells (z:=n) hn.symm
 have hnm:n≤65536:=by have:=h.mem.ok.most;rw[hn];exact this
 obtain ⟨v0,v1,v2,v3⟩:=newM_deck (cells:=cells) hr hi
 obtain ⟨d0,hd0⟩: ∃d0,d0=17+3*i:=⟨_,rfl⟩
 obtain ⟨d1,hd1⟩: ∃d1,d1=d0+1:=⟨_,rfl⟩
 obtain ⟨d2,hd2⟩: ∃d2,d2=d0+2:=⟨_,rfl⟩
 obtain ⟨d3,hd3⟩: ∃d3,d3=17+3*F.workers+5*i:=⟨_,rfl⟩
 rw[←hd0] at v0 v1 v2
 rw[←hd1] at v1
 rw[←hd2,show (17+3* (F.workers:Int)+5* (i:Int))=(d3:Int) by omega] at v2
 rw[←hd3] at v3
 obtain ⟨x0,l0⟩:=h.hs v0
 obtain ⟨x1,l1⟩:=h.hs v1
 obtain ⟨x2,l2⟩:=h.hs v2
 have HC:=Lib.hid (rcell0 (w:=w.drew) (h.below (bel_dr (Below.refl _ _))) hr hc (j:=d3) (by unfold baseN;omega) v3)
 have HD:=Lib.hid (fun W=>rdeck i d0 (by omega) hd0 W)
 rw[←hn] at l0 l1 l2
 have hB0:(0:Int)≤(d0:Int)∧(d0:Int)<(n:Int):=by omega
 have hB1:(0:Int)≤(d1:Int)∧(d1:Int)<(n:Int):=by omega
 have hB2:(0:Int)≤(d2:Int)∧(d2:Int)<(n:Int):=by omega
 have hm1:IntKind.i64.wrap ((d0:Int)+1)=(d1:Int):=by rw[IntKind.wrap_i64];omega
 have hm2:IntKind.i64.wrap ((d0:Int)+2)=(d2:Int):=by rw[IntKind.wrap_i64];omega
 have hiI:(0:Int)≤(i:Int)∧(i:Int)<(F.workers:Int):=by omega
 have hwI:(F.workers:Int)≤64:=by omega
 clear h ho hrw hn hnm v0 v1 v2 v3 hd0 hd1 hd2 hd3 l0 l1 l2 hr hc hi hw
 go_enter Tryz.func58,Tryz.ntmps58
 go_upto_region 3 with fail
 go_region_held3 (fun W=>W.cell? ⟨G.K,9,none⟩=some (.pointer (some ⟨G.X,0,none⟩))∧W.cell? ⟨G.X,1,none⟩=some (.slice (some ⟨G.gh,0,none⟩) n n)∧W.cell? ⟨G.gh,d0,none⟩=some (.int .u64 1)∧W.cell? ⟨G.gh,d1,none⟩=some (.int .u64 1)∧W.cell? ⟨G.gh,d2,none⟩=some (.int .u64 d3)) (first|with_reducible exact ⟨k9,c1,x0,x1,x2⟩ |with_reducible assumption|go_keep)
  (first|(go_at_call 96;refine (HD.out _).mono ?_;rintro e w5 ⟨rfl,rfl⟩))
 go_wp2_with fail
 refine HC.out.mono ?_
 rintro e w1 ⟨rfl,rfl⟩
 go_wp2_with fail
 refine wp_loop_rounds 1 ?_
 rw[rounds_succ]
 go_wp2_with fail
 refine bodyPost_ret (v:= .tuple #[.int .u64 1, .int .u64 1, .slice none 0 0]) (by simp[results,Tryz.results58,go_sem]) rfl ⟨rfl,rfl⟩
end
end Go.Proofs.YtaangaogmnlljaaGreatDoor.Kn
