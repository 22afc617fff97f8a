/- Part 15 of what the proof stands on: RdNewT3. -/
import Derived.Test.YtaangaogmnlljaaGreatDoorP13
set_option linter.unusedVariables false
set_option maxRecDepth 100000
set_option maxHeartbeats 40000000
namespace Go.Proofs.YtaangaogmnlljaaGreatDoor.Kn
open Go.RowKit Go.Maps Asm
variable {u0 u1 u2 u6 u7 u8 u9 u11 u12 u13 u14 u15 u16 u17 u18 u19 u20 u21 u22 u23 u24 u25 u26 u27 u28 u29 u30 u31 u32 u33 u34 u35 u36 u37 u38 u39 u40 u41 u42 u43 u44 u45 u46 u47 u48 u49 u50 u51 u52 u53 u54 u55 u56 u57 u58 u59 u60 u61 u62 u63 u64 u65 u66 u67 u68 u69 u70 u71 u72 u73 u74 u75 u76 u77 u78 u79 u80 u81 u82 u83 u84 u85 u86 u87 u88 u89 u90 u91 u92 u93 u94 u95 u96 u97 u98 u99 u100 u101 u102 u103 u104 u105 u106 u107 u108 u109 u110 u111 u112 u113 u114 u115 u116 u117 u118 u119 u120 u121 u122 u123 u124 u125 u126 u127 u128 u129 u130 u131 u132 u133 u134 u135 u136 u137 u138 u139 u140 u141 u142 u143 u144 u145 u146 u147 u148 u149 u150 u151 u152 u153 u154 u155 u156 u157 u158 u159 u160 u161 u162 u163 u164 u165 u166 u167 u168 u169 u170 u171 u172 u173 u174 u175 u176 u177 u178 u179 u180 u181 u182 u183 u184 u185 u186 u187 u188 u189 u190 u191 u192 u193 u194 u195 u196 u197 u198 u199 u200 u201 u202 u203 u204 u205 u206 u207 u208 u209 u210 u211 u212 u213 u214 u215 u216 u217 u218 u219 u220 u221 u222 u223 u224 u225 u226 u227 u228 u229 u230 u231 u232 u233 u234 u235 u236 u237 u238 u239 u240 u241 u242 u243 u244 u245 u246 u247 u248 u249 u250 u251 u252 u253 u254 u255 u256 u257 u258 u259 u260 u261 u262 u263 u264 u265 u266 u267 u268 u269 u270 u271 u272 u273 u274 u275 u276 u277 u278 u279 u280 u281 u282 u283 u284 u285 u286 u287 u288:Value}
theorem rdeck (i d:Nat) (hi:i≤64) (hd:d=17+3*i) (w:World):Calls Tryz.prog 96 #[.int .i64 (i:Int)] w fun e w'=>e= .returned (.int .i64 (d:Int))∧w=w':=by
 have h1:IntKind.i64.wrap (3* (i:Int))=3* (i:Int):=by rw[IntKind.wrap_i64];omega
 have h2:IntKind.i64.wrap (17+3* (i:Int))=(d:Int):=by rw[IntKind.wrap_i64];omega
 clear hd
 go_enter Tryz.func96,Tryz.ntmps96
 go_wp2_with fail
 go_ret
 exact ⟨rfl,rfl⟩
structure Made (S:List (Nat×Obj)) (F:Fixed) (cells X A R Q T gt O go gk:Nat):Prop where
 a:(A,Obj.cells #[ptrV X, .int .i64 (loN F), .int .i64 cells, .slice none 0 0] 258 (0,0))∈S
 r:(R,Obj.cells #[.slice none 0 0, .int .i64 64] 124 (0,0))∈S
 q:(Q,Obj.cells #[.slice none 0 0, .int .i64 8] 353 (0,0))∈S
 t:(T,Obj.cells #[.slice (some ⟨gt,0,none⟩) 64 64] 263 (0,0))∈S∧(gt,Obj.cells (rtabC (List.replicate 64 {})).toArray 265 (0,0))∈S
 o:(O,Obj.cells #[.slice (some ⟨go,0,none⟩) 64 64, .slice (some ⟨gk,0,none⟩) 64 64] 355 (0,0))∈S∧(go,Obj.cells (robjC (List.replicate 64 {})).toArray 277 (0,0))∈S∧(gk,Obj.cells (i64A ((List.replicate 64 ({}:ORow)).map (·.times))) 3 (0,0))∈S
set_option maxRecDepth 100000 in
theorem rdnew_t3 {w0 w:World} {F:Fixed} {cells:Nat} {entry:Int} {b0 b1 b2 K X gw gh A R Q T gt O go gk:Nat} {lv cv pv:Value} {kb:Nat→Nat} {S:List (Nat×Obj)} {m0:Mem}
  (h:WL w0 w F cells entry K X gw gh lv cv pv (ptrV A) (ptrV Q) (ptrV R) (ptrV T) (ptrV O) (.slice none 0 0) S w.heap.size m0 0 kb) (hm0:decksL m0 F.workers F.workers=laidM F cells) (hlen:17+8*F.workers≤m0.hs.length)
  (bx:Boxes S b0 b1 b2 F cells entry) (md:Made S F cells X A R Q T gt O go gk) (hw:1≤F.workers∧F.workers≤64) (hroom:loN F+1≤cells) (hcells:cells≤65536) (hlo:w0.heap.size≤A∧w0.heap.size≤R∧w0.heap.size≤gt)
  (J:Act→World→Prop) (hJ: ∀a w,(tailC 18 newBody).wp Tryz.prog (bodyPost Tryz.prog Tryz.f31 (NewOk w0 F cells entry)) a w→J a w):(headC 17 newBody).wp Tryz.prog (Exit.then J (bodyPost Tryz.prog Tryz.f31 (NewOk w0 F cells entry))) ⟨#[u0,u1,u2, .pointer (some ⟨b0,0,none⟩), .pointer (some ⟨b1,0,none⟩), .pointer (some ⟨b2,0,none⟩),u6,u7,u8,u9, .pointer (some ⟨K,0,none⟩),u11,u12,u13,u14,u15,u16,u17,u18,u19,u20,u21,u22,u23,u24,u25,u26,u27,u28,u29,u30,u31,u32,u33,u34,u35,u36,u37,u38,u39,u40,u41,u42,u43,u44,u45,u46,u47,u48,u49,u50,u51,u52,u53,u54,u55,u56,u57,u58,u59,u60,u61,u62,u63,u64,u65,u66,u67,u68,u69,u70,u71,u72,u73,u74,u75,u76,u77,u78,u79,u80,u81,u82,u83,u84,u85,u86,u87,u88,u89,u90,u91,u92,u93,u94,u95,u96,u97,u98,u99,u100,u101,u102,u103,u104,u105,u106,u107,u108,u109,u110,u111,u112,u113,u114,u115,u116,u117,u118,u119,u120,u121,u122,u123,u124,u125,u126,u127,u128,u129,u130,u131,u132,u133,u134,u135,u136,u137,u138,u139,u140,u141,u142,u143,u144,u145,u146,u147,u148,u149,u150,u151,u152,u153,u154,u155,u156,u157,u158,u159,u160,u161,u162,u163,u164,u165,u166,u167,u168,u169,u170,u171,u172,u173,u174,u175,u176,u177,u178,u179,u180,u181,u182,u183,u184,u185,u186,u187,u188,u189,u190,u191,u192,u193,u194,u195,u196,u197,u198,u199,u200,u201,u202,u203,u204,u205,u206,u207,u208,u209,u210,u211,u212,u213,u214,u215,u216,u217,u218,u219,u220,u221,u222,u223,u224,u225,u226,u227,u228,u229,u230,u231,u232,u233,u234,u235,u236,u237,u238,u239,u240,u241,u242,u243,u244,u245,u246,u247,u248,u249,u250,u251,u252,u253,u254,u255,u256,u257,u258,u259,u260,u261,u262,u263,u264,u265,u266,u267,u268,u269,u270,u271,u272,u273,u274,u275,u276,u277,u278,u279,u280,u281,u282,u283,u284,u285,u286,u287,u288],[]⟩ w:=by
 have HC:=Lib.hid (And.intro bx (And.intro md (And.intro hm0 (And.intro hroom (And.intro hcells (And.intro hlo (And.intro hlen hw)))))))
 have HW:=Lib.hid h
 generalize w.heap.size=B0 at HW
 have hkI:(1:Int)≤(F.workers:Int)∧(F.workers:Int)≤64:=by omega
 clear h hm0 hlen bx md hroom hcells hlo hw
 conv=>arg 2;whnf
 go_wp2_with fail
 go_loopg [12] 64 (fun gg iv wr=> ∃i:Nat,i≤F.workers∧gg=64 - i∧iv= .int .i64 (i:Int)∧ ∃wv kb,Hid (WL w0 wr F cells entry K X gw gh lv cv pv (ptrV A) (ptrV Q) (ptrV R) (ptrV T) (ptrV O) wv S B0 (decksL m0 F.workers i) i kb))
 case atStart=>exact ⟨0,by omega,rfl,rfl,_,_,HW⟩
 case round=>
  obtain ⟨i,hi,hgg,rfl,wv,kb,HR⟩:=hrel
  have Hg:=Lib.hid (And.intro hgg hi)
  have hiI:(0:Int)≤(i:Int)∧(i:Int)≤64:=by omega
  have x0:wr.cell? ⟨b0,0,none⟩=some (.int .i64 (F.workers:Int)):=blk_cell (HR.out.nm.ne.hs.at' _ (List.mem_cons_of_mem _ HC.out.1.c)) 0
  by_cases hlt:i<F.workers
  ·have hltI:(i:Int)<(F.workers:Int):=by omega
   have Hlt:=Lib.hid hlt
   clear hgg hi hlt
   have hm1:IntKind.i64.wrap (3* (F.workers:Int))=3* (F.workers:Int):=by rw[IntKind.wrap_i64];omega
   have hm2:IntKind.i64.wrap (17+3* (F.workers:Int))=17+3* (F.workers:Int):=by rw[IntKind.wrap_i64];omega
   have hm3:IntKind.i64.wrap (5* (i:Int))=5* (i:Int):=by rw[IntKind.wrap_i64];omega
   obtain ⟨d3,hd3⟩: ∃d3,d3=17+3*F.workers+5*i:=⟨_,rfl⟩
   have hm4:IntKind.i64.wrap (17+3* (F.workers:Int)+5* (i:Int))=(d3:Int):=by rw[IntKind.wrap_i64];omega
   have HD3:=Lib.hid hd3
   clear hd3
   go_upto_region 30 with fail
   clear hm1 hm2 hm3 hm4 x0
   obtain ⟨d0,hd0⟩: ∃d0,d0=17+3*i:=⟨_,rfl⟩
   obtain ⟨d1,hd1⟩: ∃d1,d1=d0+1:=⟨_,rfl⟩
   obtain ⟨d2,hd2⟩: ∃d2,d2=d0+2:=⟨_,rfl⟩
   obtain ⟨n,hn⟩: ∃n,n=m0.hs.length:=⟨_,rfl⟩
   have hl:(decksL m0 F.workers i).hs.length=n:=by rw[decks_len,hn]
   have hle:=HC.out.2.2.2.2.2.2
   have hm1:IntKind.i64.wrap ((d0:Int)+1)=(d1:Int):=by rw[IntKind.wrap_i64];omega
   have hm2:IntKind.i64.wrap ((d0:Int)+2)=(d2:Int):=by rw[IntKind.wrap_i64];omega
   have hm3:IntKind.u64.wrap (d3:Int)=(d3:Int):=by have:=HD3.out;rw[IntKind.wrap_u64];omega
   have hB0:(0:Int)≤(d0:Int)∧(d0:Int)<(n:Int):=by have:=Hlt.out;omega
   have hB1:(0:Int)≤(d1:Int)∧(d1:Int)<(n:Int):=by have:=Hlt.out;omega
   have hB2:(0:Int)≤(d2:Int)∧(d2:Int)<(n:Int):=by have:=Hlt.out;omega
   have hB3:(0:Int)≤(d3:Int)∧(d3:Int)<(n:Int):=by have:=Hlt.out;have:=HD3.out;omega
   have hn01:d0≠d1:=by omega
   have hn02:d0≠d2:=by omega
   have hn12:d1≠d2:=by omega
   have hKg:K≠gh:=by have:=HR.out.nm.high;omega
   have hXg:X≠gh:=(mem_apart HR.out.nm.mem).2.1
   have HD:=Lib.hid (fun W=>rdeck i d0 (by have:=Hlt.out;omega) hd0 W)
   have HN:=Lib.hid (And.intro hd0 (And.intro hd1 (And.intro hd2 hl)))
   have k9:wr.cell? ⟨K,9,none⟩=some (.pointer (some ⟨X,0,none⟩)):=blk_cell HR.out.kobj 9
   have k1:wr.cell? ⟨X,1,none⟩=some (.slice (some ⟨gh,0,none⟩) n n):=by have:=(HR.out.nm.mem.cells hl).2;exact this
   obtain ⟨y0,z0⟩: ∃y,wr.cell? ⟨gh,d0,none⟩=some (.int .u64 y):=⟨_,(HR.out.nm.mem.hcell (a:=d0) (by rw[hl];omega)).1⟩
   obtain ⟨y1,z1⟩: ∃y,wr.cell? ⟨gh,d1,none⟩=some (.int .u64 y):=⟨_,(HR.out.nm.mem.hcell (a:=d1) (by rw[hl];omega)).1⟩
   obtain ⟨y2,z2⟩: ∃y,wr.cell? ⟨gh,d2,none⟩=some (.int .u64 y):=⟨_,(HR.out.nm.mem.hcell (a:=d2) (by rw[hl];omega)).1⟩
   have zf: ∀o,wr.frozen? ⟨gh,o,none⟩=false:=blk_frozen HR.out.nm.mem.hs
   have HKs:Hid (∀(W:World) (d:Nat) (v:Value),(W.cell? ⟨K,9,none⟩=some (.pointer (some ⟨X,0,none⟩))∧W.cell? ⟨X,1,none⟩=some (.slice (some ⟨gh,0,none⟩) n n))→((W.setCell ⟨gh,d,none⟩ v).cell? ⟨K,9,none⟩=some (.pointer (some ⟨X,0,none⟩))∧(W.setCell ⟨gh,d,none⟩ v).cell? ⟨X,1,none⟩=some (.slice (some ⟨gh,0,none⟩) n n))):=Lib.hid fun W d v h=>⟨(World.cell?_of_block (set_other (by exact hKg))).trans h.1,(World.cell?_of_block (set_other (by exact hXg))).trans h.2⟩
   have HKd:Hid (∀W:World,(W.cell? ⟨K,9,none⟩=some (.pointer (some ⟨X,0,none⟩))∧W.cell? ⟨X,1,none⟩=some (.slice (some ⟨gh,0,none⟩) n n))→(W.drew.cell? ⟨K,9,none⟩=some (.pointer (some ⟨X,0,none⟩))∧W.drew.cell? ⟨X,1,none⟩=some (.slice (some ⟨gh,0,none⟩) n n))):=Lib.hid fun W h=>h
   clear hd0 hd1 hd2 hn hl hle
   go_region_held3 (fun W=>W.cell? ⟨K,9,none⟩=some (.pointer (some ⟨X,0,none⟩))∧W.cell? ⟨X,1,none⟩=some (.slice (some ⟨gh,0,none⟩) n n)) (repeat (first|with_reducible exact ⟨k9,k1⟩ |with_reducible refine HKd.out _ ?_|with_reducible refine HKs.out _ _ _ ?_))
    (first|(go_at_call 96;refine (HD.out _).mono ?_;rintro e w5 ⟨rfl,rfl⟩))
   obtain ⟨hd0,hd1,hd2,hl⟩:=HN.out
   have hd3I:(17+3* (F.workers:Int)+5* (i:Int))=(d3:Int):=by have:=HD3.out;omega
   have u1:U64 (1:Int):=by unfold U64;omega
   have u4:U64 (4:Int):=by unfold U64;omega
   have u3:U64 (d3:Int):=by have:=HD3.out;unfold U64;omega
   have hm3':=((HR.out.nm.mem.lay (x:=17+3* (i:Int)) (d:=d0) (by omega) u1).lay (x:=17+3* (i:Int)+1) (d:=d1) (by omega) u1).lay (x:=17+3* (i:Int)+2) (d:=d2) (by omega) u3
   have hk3:Keeps (fun b=>b=gh) wr (((wr.setCell ⟨gh,d0,none⟩ (.int .u64 1)).setCell ⟨gh,d1,none⟩ (.int .u64 1)).setCell ⟨gh,d2,none⟩ (.int .u64 (d3:Int))):=(((Keeps.refl _ wr).setCell (p:=⟨gh,d0,none⟩) (by exact rfl) _).setCell (p:=⟨gh,d1,none⟩) (by exact rfl) _).setCell (p:=⟨gh,d2,none⟩) (by exact rfl) _
   have HZ:=Lib.hid (And.intro ((HR.out.holds hm3' hk3).below (w':=(((wr.setCell ⟨gh,d0,none⟩ (.int .u64 1)).setCell ⟨gh,d1,none⟩ (.int .u64 1)).setCell ⟨gh,d2,none⟩ (.int .u64 (d3:Int))).drew) ((Below.refl _ _).drew)) (And.intro hd3I u4))
   have hlz:(((((decksL m0 F.workers i).lay (17+3* (i:Int)) 1).lay (17+3* (i:Int)+1) 1).lay (17+3* (i:Int)+2) (d3:Int))).hs.length=n:=by rw[lay_len,lay_len,lay_len,hl]
   clear k9 k1 z0 z1 z2 zf hd0 hd1 hd2 hl u1 u4 u3 hm3' hk3 HR hB0 hB1 hB2 hn01 hn02 hn12 hKg hXg HD HN HKs HKd hm1 hm2 hm3 hd3I
   generalize (((wr.setCell ⟨gh,d0,none⟩ (.int .u64 1)).setCell ⟨gh,d1,none⟩ (.int .u64 1)).setCell ⟨gh,d2,none⟩ (.int .u64 (d3:Int))).drew=wz at HZ ⊢
   have k9:wz.cell? ⟨K,9,none⟩=some (.pointer (some ⟨X,0,none⟩)):=blk_cell HZ.out.1.kobj 9
   have k1:wz.cell? ⟨X,1,none⟩=some (.slice (some ⟨gh,0,none⟩) n n):=by have:=(HZ.out.1.nm.mem.cells hlz).2;exact this
   obtain ⟨y3,z3⟩: ∃y,wz.cell? ⟨gh,d3,none⟩=some (.int .u64 y):=⟨_,(HZ.out.1.nm.mem.hcell (a:=d3) (by rw[hlz];omega)).1⟩
   have zf: ∀o,wz.frozen? ⟨gh,o,none⟩=false:=blk_frozen HZ.out.1.nm.mem.hs
   clear hlz
   go_upto_region 32 with fail
   have HY:Hid (WL w0 (wz.setCell ⟨gh,d3,none⟩ (.int .u64 4)) F cells entry K X gw gh lv cv pv (ptrV A) (ptrV Q) (ptrV R) (ptrV T) (ptrV O) wv S B0 (decksL m0 F.workers (i+1)) i kb):=Lib.hid (by
    have h:=HZ.out.1.holds (HZ.out.1.nm.mem.lay (x:=17+3* (F.workers:Int)+5* (i:Int)) (d:=d3) HZ.out.2.1 HZ.out.2.2) ((Keeps.refl _ wz).setCell (p:=⟨gh,d3,none⟩) (by exact rfl) _)
    rw[←HZ.out.2.1] at h
    have e:(17+3* (F.workers:Int)+5* (i:Int)).toNat=d3:=by have:=HZ.out.2.1;omega
    exact h)
   clear k9 k1 z3 zf HZ hB3
   generalize wz.setCell ⟨gh,d3,none⟩ (.int .u64 4)=wy at HY ⊢
   go_upto_region 33 with fail
   have hz:(wy.alloc (.cells #[.int .u64 0, .int .u64 0, .bool false, .int .i64 0, .int .i64 0, .int .u64 0, .int .u64 0, .int .u64 0, .int .u64 0, .int .u64 0, .int .u64 0, .int .u64 0, .int .u64 0, .int .u64 0, .int .u64 0, .int .u64 0, .int .u64 0, .int .u64 0, .int .u64 0, .int .u64 0, .int .u64 0, .int .u64 0, .int .u64 0, .int .u64 0, .int .u64 0, .int .u64 0, .int .u64 0, .int .u64 0, .int .u64 0, .int .u64 0, .int .u64 0, .int .u64 0, .int .u64 0, .int .u64 0, .int .u64 0, .int .u64 0, .int .u64 0, .slice none 0 0] 221)).heap[wy.heap.size]?=some (.cells #[.int .u64 0, .int .u64 0, .bool false, .int .i64 0, .int .i64 0, .int .u64 0, .int .u64 0, .int .u64 0, .int .u64 0, .int .u64 0, .int .u64 0, .int .u64 0, .int .u64 0, .int .u64 0, .int .u64 0, .int .u64 0, .int .u64 0, .int .u64 0, .int .u64 0, .int .u64 0, .int .u64 0, .int .u64 0, .int .u64 0, .int .u64 0, .int .u64 0, .int .u64 0, .int .u64 0, .int .u64 0, .int .u64 0, .int .u64 0, .int .u64 0, .int .u64 0, .int .u64 0, .int .u64 0, .int .u64 0, .int .u64 0, .int .u64 0, .slice none 0 0] 221 (0,0)):=heap_alloc_new wy _
   have hb3:Below wy.heap.size wy (wy.alloc (.cells #[.int .u64 0, .int .u64 0, .bool false, .int .i64 0, .int .i64 0, .int .u64 0, .int .u64 0, .int .u64 0, .int .u64 0, .int .u64 0, .int .u64 0, .int .u64 0, .int .u64 0, .int .u64 0, .int .u64 0, .int .u64 0, .int .u64 0, .int .u64 0, .int .u64 0, .int .u64 0, .int .u64 0, .int .u64 0, .int .u64 0, .int .u64 0, .int .u64 0, .int .u64 0, .int .u64 0, .int .u64 0, .int .u64 0, .int .u64 0, .int .u64 0, .int .u64 0, .int .u64 0, .int .u64 0, .int .u64 0, .int .u64 0, .int .u64 0, .slice none 0 0] 221)):=(Below.refl _ _).alloc (Nat.le_refl _) _
   have hne: ∀j<i,kb j≠wy.heap.size:=fun j hj=>Nat.ne_of_lt (blk_in (HY.out.wk j hj))
   have hlo:=HY.out.lo
   generalize wy.alloc (.cells #[.int .u64 0, .int .u64 0, .bool false, .int .i64 0, .int .i64 0, .int .u64 0, .int .u64 0, .int .u64 0, .int .u64 0, .int .u64 0, .int .u64 0, .int .u64 0, .int .u64 0, .int .u64 0, .int .u64 0, .int .u64 0, .int .u64 0, .int .u64 0, .int .u64 0, .int .u64 0, .int .u64 0, .int .u64 0, .int .u64 0, .int .u64 0, .int .u64 0, .int .u64 0, .int .u64 0, .int .u64 0, .int .u64 0, .int .u64 0, .int .u64 0, .int .u64 0, .int .u64 0, .int .u64 0, .int .u64 0, .int .u64 0, .int .u64 0, .slice none 0 0] 221)=wx at hz hb3 ⊢
   have hX:=HY.out.below hb3
   generalize wy.heap.size=bi at*
   have x4:wx.cell? ⟨bi,4,none⟩=some (.int .i64 0):=blk_cell hz 4
   have xf: ∀o,wx.frozen? ⟨bi,o,none⟩=false:=blk_frozen hz
   obtain ⟨lu,lw,xl⟩: ∃u v,wx.heap[b1]?=some (.cells #[u, .int .i64 F.loop,v] 77 (0,0)):=by
    obtain ⟨u,v,hl⟩:=HC.out.1.l
    exact ⟨u,v,hX.nm.ne.hs.at' _ (List.mem_cons_of_mem _ hl)⟩
   have x1:wx.cell? ⟨b1,1,none⟩=some (.int .i64 F.loop):=blk_cell xl 1
   have hkm:Keeps (fun b=>b=bi) wx (wx.setCell ⟨bi,4,none⟩ (.int .i64 F.loop)):=(Keeps.refl _ wx).setCell (p:=⟨bi,4,none⟩) (by exact rfl) _
   have hwo:(wx.setCell ⟨bi,4,none⟩ (.int .i64 F.loop)).heap[bi]?=some (wkO F):=set_block hz (k:=4) (.int .i64 F.loop)
   have HK:=Lib.hid (And.intro hwo (hX.mine hz hlo hne hkm))
   clear hz hb3 hne hlo hX xl hkm hwo HY
   go_upto_region 34 with fail
   clear x4 xf x1
   generalize wx.setCell ⟨bi,4,none⟩ (.int .i64 F.loop)=wk at HK ⊢
   obtain ⟨Av,cv2,rfl⟩:=Asm.own_shape HK.out.2.row
   have k19:wk.cell? ⟨K,19,none⟩=some (.slice Av i cv2):=blk_cell HK.out.2.kobj 19
   have hKl:K<wk.heap.size:=blk_in HK.out.2.kobj
   have hq:(wk.alloc (.cells #[.pointer (some ⟨bi,0,none⟩)] 218)).heap[wk.heap.size]?=some (.cells #[.pointer (some ⟨bi,0,none⟩)] 218 (0,0)):=heap_alloc_new wk _
   have hbq:Below wk.heap.size wk (wk.alloc (.cells #[.pointer (some ⟨bi,0,none⟩)] 218)):=(Below.refl _ wk).alloc (Nat.le_refl _) _
   have hL:=HK.out.2.below hbq
   have hob:(wk.alloc (.cells #[.pointer (some ⟨bi,0,none⟩)] 218)).heap[bi]?=some (wkO F):=(hbq.block bi (blk_in HK.out.1)).trans HK.out.1
   obtain ⟨v6,w6,hrun,hown,hg,-⟩:=appT (w:=wk.alloc (.cells #[.pointer (some ⟨bi,0,none⟩)] 218)) B0 118 118 218 1 8 Tryz.underlying118 (by kernel_rfl) (by decide) (by decide) hL.row (row_one' (base:=0) hq (Nat.zero_le _)) (fun u hu=>by simp at hu;subst hu;rfl) (by omega) hL.lo
   have hKr:K<B0:=hL.mlt.2.2.2
   have k19':w6.cell? ⟨K,19,none⟩=some (.slice Av i cv2):=by
    have:=hg.block K (Nat.lt_of_lt_of_le hKl hbq.size) (fun e=>by have:=(hL.row.lt K e.symm).1;omega)
    exact (World.cell?_of_block this).trans (blk_cell hL.kobj 19)
   have kf6:w6.frozen? ⟨K,19,none⟩=false:=by
    have:=hg.block K (Nat.lt_of_lt_of_le hKl hbq.size) (fun e=>by have:=(hL.row.lt K e.symm).1;omega)
    exact (World.frozen?_of_block this).trans (blk_frozen hL.kobj 19)
   have HRun:=Lib.hid hrun
   have HF:=Lib.hid (hL.grow hob hg hown)
   obtain ⟨A6,c6,rfl⟩:=Asm.own_shape hown
   clear hq hbq hL hob hrun hown hg HK hKr
   go_upto_region 28 with (at_builtin;refine Go.Lib.wpList_append_run _ rfl (.tmp 236) (.tmp 238) 118 118 rfl _ _ rfl rfl _ _ HRun.out ?_)
   clear HRun k19 k19' kf6 hKl
   generalize w6.setCell ⟨K,19,none⟩ (.slice A6 (i+1) c6)=wf at HF ⊢
   go_wp2_with fail
   go_roundg (64 - (i+1))
   case measure=>have:=Hg.out;have:=Hlt.out;omega
   case rel=>exact ⟨i+1,Hlt.out,rfl,by go_num,_,_,HF⟩
  ·obtain rfl:i=F.workers:=by omega
   clear hgg hi hlt
   go_upto_region 35 with fail
   obtain ⟨bx,md,hm0,hroom,hcells,hlo,-,hw⟩:=HC.out
   have hs: ∀p∈S,wr.heap[p.1]?=some p.2:=fun p hp=>HR.out.nm.ne.hs.at' p (List.mem_cons_of_mem _ hp)
   have ap:=fun p hp=>HR.out.nm.apart p (List.mem_cons_of_mem _ hp)
   have hh:=HR.out.nm.high
   have hl0:=HR.out.nm.ne.lo
   have hA:=hs _ md.a
   have hR:=hs _ md.r
   have hG:=hs _ md.o.2.2
   exact rdnew_t4 HR.out.nm.ne.below ⟨hl0,by omega,by omega,hlo.1,hlo.2.1,hlo.2.2⟩ HR.out.kobj (by have:=HR.out.nm.mem;rwa[hm0] at this) hA hR ⟨tab_ok0,hs _ md.t.1,hs _ md.t.2⟩
    ⟨hs _ md.q,⟨obj_ok0,hs _ md.o.1,hs _ md.o.2.1,hG⟩,Asm.row_base HR.out.row (Nat.zero_le _),HR.out.wk,by obtain ⟨u,hu⟩:=bx.p;exact ⟨u,hs _ hu⟩⟩
    ⟨(ap _ md.o.2.2).2.1,(ap _ md.o.2.2).2.2,cells_apart hG hA (by decide),cells_apart hG (hs _ md.t.2) (by decide),cells_apart hG HR.out.kobj (by decide),cells_apart hG hR (by decide)⟩ hroom hcells
end Go.Proofs.YtaangaogmnlljaaGreatDoor.Kn
