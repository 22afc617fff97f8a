/- Part 32 of what the proof stands on: RdRtC. -/
import Derived.Test.YtaangaogmnlljaaGreatDoorP28
set_option linter.unusedVariables false
set_option maxRecDepth 100000
set_option maxHeartbeats 40000000
namespace Go.Proofs.YtaangaogmnlljaaGreatDoor.Kn
open Go.RowKit Asm
theorem a80.q24 {P:Prop} (h:P:=by
 rcases fldU xa with ha|ha
 ·rcases fldZ xb with rfl|⟨hb,hb2⟩
  ·rcases fldZ xc with rfl|⟨hc,hc2⟩
   ·exact rrtS
   ·exact rrtS
  ·exact rrtS
 ·exact rrtS):P:=h
theorem a80.q100 {P:Prop} (h:P:=by
 exact m24):P:=h
open a80 in
set_option maxRecDepth 100000 in
theorem rrtF_1 {o xa xb xc xv xm xw n:Int} (w:World) (hn:0≤n∧n≤4000) (ho:1≤o∧o≤58) (hg:o≤22) (hf:shpV o= .agg #[.bool true, .bool false, .bool false, .bool true, .bool false, .bool false, .bool false, .bool true]) (h22:(o==22)=false) (h43:(o==43)=false):
  Calls Tryz.prog 281 #[.agg #[.int .i64 o, .int .i64 xa, .int .i64 xb, .int .i64 xc, .int .u64 xv, .int .i64 0, .int .i64 0], .int .i64 n, .bool false] w fun e w'=>e= .returned (.bool (regB xa&&xb==0&&xc==0))∧Below w.heap.size w w':=by
 exact m100
theorem a81.q24 {P:Prop} (h:P:=by
 rcases fldU xa with ha|ha
 ·rcases fldU xb with hb|hb
  ·rcases fldZ xc with rfl|⟨hc,hc2⟩
   ·rcases fldZ xv with rfl|⟨hv,hv2⟩
    ·exact rrtS
    ·exact rrtS
   ·exact rrtS
  ·exact rrtS
 ·exact rrtS):P:=h
theorem a81.q99 {P:Prop} (h:P:=by
 exact m24):P:=h
open a81 in
set_option maxRecDepth 100000 in
theorem rrtF_2 {o xa xb xc xv xm xw n:Int} (w:World) (hn:0≤n∧n≤4000) (ho:1≤o∧o≤58) (hg:o≤22) (hf:shpV o= .agg #[.bool true, .bool true, .bool false, .bool false, .bool false, .bool false, .bool false, .bool true]) (h22:(o==22)=false) (h43:(o==43)=false):
  Calls Tryz.prog 281 #[.agg #[.int .i64 o, .int .i64 xa, .int .i64 xb, .int .i64 xc, .int .u64 xv, .int .i64 0, .int .i64 0], .int .i64 n, .bool false] w fun e w'=>e= .returned (.bool (regB xa&&regB xb&&xc==0&&xv==0))∧Below w.heap.size w w':=by
 exact m99
theorem a82.q24 {P:Prop} (h:P:=by
 rcases fldU xa with ha|ha
 ·rcases fldU xb with hb|hb
  ·rcases fldL xc with ⟨hc,hc2,hc3⟩ |rfl|⟨hc,hc2,hc3⟩
   ·rcases fldZ xv with rfl|⟨hv,hv2⟩
    ·exact rrtS
    ·exact rrtS
   ·exact rrtS
   ·exact rrtS
  ·exact rrtS
 ·exact rrtS):P:=h
theorem a82.q103 {P:Prop} (h:P:=by
 exact m24):P:=h
open a82 in
set_option maxRecDepth 100000 in
theorem rrtF_3 {o xa xb xc xv xm xw n:Int} (w:World) (hn:0≤n∧n≤4000) (ho:1≤o∧o≤58) (hg:o≤22) (hf:shpV o= .agg #[.bool true, .bool true, .bool true, .bool true, .bool false, .bool true, .bool false, .bool true]) (h22:(o==22)=false) (h43:(o==43)=false):
  Calls Tryz.prog 281 #[.agg #[.int .i64 o, .int .i64 xa, .int .i64 xb, .int .i64 xc, .int .u64 xv, .int .i64 0, .int .i64 0], .int .i64 n, .bool false] w fun e w'=>e= .returned (.bool (regB xa&&regB xb&& (regB xc||xc== -1)&& (xc== -1||xv==0)))∧Below w.heap.size w w':=by
 exact m103
theorem a83.q24 {P:Prop} (h:P:=by
 rcases fldZ xa with rfl|⟨ha,ha2⟩
 ·exact m97
 ·exact rrtS):P:=h
theorem a83.q98 {P:Prop} (h:P:=by
 exact m24):P:=h
open a83 in
set_option maxRecDepth 100000 in
theorem rrtF_4 {o xa xb xc xv xm xw n:Int} (w:World) (hn:0≤n∧n≤4000) (ho:1≤o∧o≤58) (hg:o≤22) (hf:shpV o= .agg #[.bool false, .bool false, .bool false, .bool true, .bool false, .bool false, .bool true, .bool true]) (h22:(o==22)=false) (h43:(o==43)=false):
  Calls Tryz.prog 281 #[.agg #[.int .i64 o, .int .i64 xa, .int .i64 xb, .int .i64 xc, .int .u64 xv, .int .i64 0, .int .i64 0], .int .i64 n, .bool false] w fun e w'=>e= .returned (.bool (xa==0&&xb==0&&xc==0&&decide (xv<n)))∧Below w.heap.size w w':=by
 exact m98
theorem a84.q24 {P:Prop} (h:P:=by
 rcases fldU xa with ha|ha
 ·exact m97
 ·exact rrtS):P:=h
theorem a84.q101 {P:Prop} (h:P:=by
 exact m24):P:=h
open a84 in
set_option maxRecDepth 100000 in
theorem rrtF_5 {o xa xb xc xv xm xw n:Int} (w:World) (hn:0≤n∧n≤4000) (ho:1≤o∧o≤58) (hg:o≤22) (hf:shpV o= .agg #[.bool true, .bool false, .bool false, .bool true, .bool false, .bool false, .bool true, .bool true]) (h22:(o==22)=false) (h43:(o==43)=false):
  Calls Tryz.prog 281 #[.agg #[.int .i64 o, .int .i64 xa, .int .i64 xb, .int .i64 xc, .int .u64 xv, .int .i64 0, .int .i64 0], .int .i64 n, .bool false] w fun e w'=>e= .returned (.bool (regB xa&&xb==0&&xc==0&&decide (xv<n)))∧Below w.heap.size w w':=by
 exact m101
theorem a85.q24 {P:Prop} (h:P:=by
 rcases fldZ xa with rfl|⟨ha,ha2⟩
 ·rcases fldZ xb with rfl|⟨hb,hb2⟩
  ·rcases fldZ xc with rfl|⟨hc,hc2⟩
   ·rcases fldZ xv with rfl|⟨hv,hv2⟩
    ·exact rrtS
    ·exact rrtS
   ·exact rrtS
  ·exact rrtS
 ·exact rrtS):P:=h
theorem a85.q95 {P:Prop} (h:P:=by
 exact m24):P:=h
open a85 in
set_option maxRecDepth 100000 in
theorem rrtF_6 {o xa xb xc xv xm xw n:Int} (w:World) (hn:0≤n∧n≤4000) (ho:1≤o∧o≤58) (hg:o≤22) (hf:shpV o= .agg #[.bool false, .bool false, .bool false, .bool false, .bool false, .bool false, .bool false, .bool true]) (h22:(o==22)=false) (h43:(o==43)=false):
  Calls Tryz.prog 281 #[.agg #[.int .i64 o, .int .i64 xa, .int .i64 xb, .int .i64 xc, .int .u64 xv, .int .i64 0, .int .i64 0], .int .i64 n, .bool false] w fun e w'=>e= .returned (.bool (xa==0&&xb==0&&xc==0&&xv==0))∧Below w.heap.size w w':=by
 exact m95
theorem a86.q24 {P:Prop} (h:P:=by
 rcases fldU xa with ha|ha
 ·rcases fldL xb with ⟨hb,hb2,hb3⟩ |rfl|⟨hb,hb2,hb3⟩
  ·rcases fldZ xc with rfl|⟨hc,hc2⟩
   ·exact rrtS
   ·exact rrtS
  ·rcases fldZ xc with rfl|⟨hc,hc2⟩
   ·exact rrtS
   ·exact rrtS
  ·exact rrtS
 ·exact rrtS):P:=h
theorem a86.q44 {P:Prop} (h:P:=by
 exact m24):P:=h
open a86 in
set_option maxRecDepth 100000 in
theorem rrtF_7 {o xa xb xc xv xm xw n:Int} (w:World) (hn:0≤n∧n≤4000) (ho:1≤o∧o≤58) (hg:o≤22) (hf:shpV o= .agg #[.bool true, .bool true, .bool false, .bool true, .bool true, .bool false, .bool false, .bool true]) (h22:(o==22)=false) (h43:(o==43)=false):
  Calls Tryz.prog 281 #[.agg #[.int .i64 o, .int .i64 xa, .int .i64 xb, .int .i64 xc, .int .u64 xv, .int .i64 0, .int .i64 0], .int .i64 n, .bool false] w fun e w'=>e= .returned (.bool (regB xa&& (regB xb||xb== -1)&&xc==0))∧Below w.heap.size w w':=by
 exact m44
theorem a87.q24 {P:Prop} (h:P:=by
 rcases fldU xa with ha|ha
 ·rcases fldL xb with ⟨hb,hb2,hb3⟩ |rfl|⟨hb,hb2,hb3⟩
  ·rcases fldU xc with hc|hc
   ·exact rrtS
   ·exact rrtS
  ·rcases fldU xc with hc|hc
   ·exact rrtS
   ·exact rrtS
  ·exact rrtS
 ·exact rrtS):P:=h
theorem a87.q102 {P:Prop} (h:P:=by
 exact m24):P:=h
open a87 in
set_option maxRecDepth 100000 in
theorem rrtF_8 {o xa xb xc xv xm xw n:Int} (w:World) (hn:0≤n∧n≤4000) (ho:1≤o∧o≤58) (hg:o≤22) (hf:shpV o= .agg #[.bool true, .bool true, .bool true, .bool true, .bool true, .bool false, .bool false, .bool true]) (h22:(o==22)=false) (h43:(o==43)=false):
  Calls Tryz.prog 281 #[.agg #[.int .i64 o, .int .i64 xa, .int .i64 xb, .int .i64 xc, .int .u64 xv, .int .i64 0, .int .i64 0], .int .i64 n, .bool false] w fun e w'=>e= .returned (.bool (regB xa&& (regB xb||xb== -1)&&regB xc))∧Below w.heap.size w w':=by
 exact m102
theorem a88.q24 {P:Prop} (h:P:=by
 rcases fldZ xa with rfl|⟨ha,ha2⟩
 ·rcases fldZ xb with rfl|⟨hb,hb2⟩
  ·rcases fldZ xc with rfl|⟨hc,hc2⟩
   ·rcases Int.lt_or_le xv 1000 with hv|hv
    ·exact rrtS
    ·exact rrtS
   ·exact rrtS
  ·exact rrtS
 ·exact rrtS):P:=h
open a88 in
set_option maxRecDepth 100000 in
theorem rrtF_9 {o xa xb xc xv xm xw n:Int} (w:World) (hn:0≤n∧n≤4000) (ho:1≤o∧o≤58) (hg:o≤22) (hf:shpV o= .agg #[.bool false, .bool false, .bool false, .bool true, .bool false, .bool false, .bool false, .bool true]) (h22:(o==22)=true) (h43:(o==43)=false):
  Calls Tryz.prog 281 #[.agg #[.int .i64 o, .int .i64 xa, .int .i64 xb, .int .i64 xc, .int .u64 xv, .int .i64 0, .int .i64 0], .int .i64 n, .bool false] w fun e w'=>e= .returned (.bool (xa==0&&xb==0&&xc==0&&decide (xv<1000)))∧Below w.heap.size w w':=by
 have HF:Hid (∀W,Calls Tryz.prog 264 #[.int .i64 o] W fun e w'=>e= .returned (.agg #[.bool false, .bool false, .bool false, .bool true, .bool false, .bool false, .bool false, .bool true])∧Below W.heap.size W w'):=Lib.hid fun W=>by rw[←hf];exact rof_any ho W
 exact m24
end Go.Proofs.YtaangaogmnlljaaGreatDoor.Kn
