/- Part 30 of what the proof stands on: RdRtA. -/
import Derived.Test.YtaangaogmnlljaaGreatDoorP28
set_option linter.unusedVariables false
set_option maxRecDepth 100000
set_option maxHeartbeats 40000000
namespace Go.Proofs.YtaangaogmnlljaaGreatDoor.Kn
open Go.RowKit Asm
theorem a68.q24 {P:Prop} (h:P:=by
 subst hb
 exact m71):P:=h
theorem a68.q100 {P:Prop} (h:P:=by
 exact m24):P:=h
open a68 in
set_option maxRecDepth 100000 in
theorem rrtT_1 {o xa xb xc xv xm xw n:Int} (w:World) (hn:0≤n∧n≤4000) (ho:1≤o∧o≤58) (hf:shpV o= .agg #[.bool true, .bool false, .bool false, .bool true, .bool false, .bool false, .bool false, .bool true]) (h22:(o==22)=false) (h43:(o==43)=false) (ha:regB xa=true) (hb:xb=0) (hc:xc=0) (hm:(xm=0∧xw=0)∨((xm==0)=false∧(xm !=0)=true∧0≤xm∧xm≤99∧xw=0)∨((xm==0)=false∧(xm !=0)=true∧0≤xm∧xm≤99∧(xw==0)=false∧(xw !=0)=true∧0≤xw∧xw≤2)):
  Calls Tryz.prog 281 #[.agg #[.int .i64 o, .int .i64 xa, .int .i64 xb, .int .i64 xc, .int .u64 xv, .int .i64 xm, .int .i64 xw], .int .i64 n, .bool true] w fun e w'=>e= .returned (.bool (true))∧Below w.heap.size w w':=by
 exact m100
theorem a69.q24 {P:Prop} (h:P:=by
 rcases hb with ⟨hb,hb2,hb3⟩
 exact m110):P:=h
theorem a69.q99 {P:Prop} (h:P:=by
 exact m24):P:=h
open a69 in
set_option maxRecDepth 100000 in
theorem rrtT_2 {o xa xb xc xv xm xw n:Int} (w:World) (hn:0≤n∧n≤4000) (ho:1≤o∧o≤58) (hf:shpV o= .agg #[.bool true, .bool true, .bool false, .bool false, .bool false, .bool false, .bool false, .bool true]) (h22:(o==22)=false) (h43:(o==43)=false) (ha:regB xa=true) (hb:(regB xb=true∧(xb== -1)=false∧(xb != -1)=true)) (hc:xc=0) (hv:xv=0) (hm:(xm=0∧xw=0)∨((xm==0)=false∧(xm !=0)=true∧0≤xm∧xm≤99∧xw=0)∨((xm==0)=false∧(xm !=0)=true∧0≤xm∧xm≤99∧(xw==0)=false∧(xw !=0)=true∧0≤xw∧xw≤2)):
  Calls Tryz.prog 281 #[.agg #[.int .i64 o, .int .i64 xa, .int .i64 xb, .int .i64 xc, .int .u64 xv, .int .i64 xm, .int .i64 xw], .int .i64 n, .bool true] w fun e w'=>e= .returned (.bool (true))∧Below w.heap.size w w':=by
 exact m99
theorem a70.q24 {P:Prop} (h:P:=by
 rcases hb with ⟨hb,hb2,hb3⟩
 rcases hc with ⟨hc,hc2,hc3⟩ |rfl
 all_goals
  first|(have hv:=hv (by assumption);subst hv) |clear hv
  rcases hm with ⟨rfl,rfl⟩ |⟨hm0,hm3,hm1,hm2,rfl⟩ |⟨hm0,hm3,hm1,hm2,hw0,hw3,hw1,hw2⟩
  all_goals exact rrtS):P:=h
theorem a70.q103 {P:Prop} (h:P:=by
 exact m24):P:=h
open a70 in
set_option maxRecDepth 100000 in
theorem rrtT_3 {o xa xb xc xv xm xw n:Int} (w:World) (hn:0≤n∧n≤4000) (ho:1≤o∧o≤58) (hf:shpV o= .agg #[.bool true, .bool true, .bool true, .bool true, .bool false, .bool true, .bool false, .bool true]) (h22:(o==22)=false) (h43:(o==43)=false) (ha:regB xa=true) (hb:(regB xb=true∧(xb== -1)=false∧(xb != -1)=true)) (hc:(regB xc=true∧(xc== -1)=false∧(xc != -1)=true)∨xc= -1) (hv:(xc== -1)=false→xv=0) (hm:(xm=0∧xw=0)∨((xm==0)=false∧(xm !=0)=true∧0≤xm∧xm≤99∧xw=0)∨((xm==0)=false∧(xm !=0)=true∧0≤xm∧xm≤99∧(xw==0)=false∧(xw !=0)=true∧0≤xw∧xw≤2)):
  Calls Tryz.prog 281 #[.agg #[.int .i64 o, .int .i64 xa, .int .i64 xb, .int .i64 xc, .int .u64 xv, .int .i64 xm, .int .i64 xw], .int .i64 n, .bool true] w fun e w'=>e= .returned (.bool (true))∧Below w.heap.size w w':=by
 exact m103
theorem a71.q24 {P:Prop} (h:P:=by
 subst ha
 subst hb
 subst hc
 all_goals
  rcases hm with ⟨rfl,rfl⟩ |⟨hm0,hm3,hm1,hm2,rfl⟩
  all_goals exact rrtS):P:=h
theorem a71.q98 {P:Prop} (h:P:=by
 exact m24):P:=h
open a71 in
set_option maxRecDepth 100000 in
theorem rrtT_4 {o xa xb xc xv xm xw n:Int} (w:World) (hn:0≤n∧n≤4000) (ho:1≤o∧o≤58) (hf:shpV o= .agg #[.bool false, .bool false, .bool false, .bool true, .bool false, .bool false, .bool true, .bool true]) (h22:(o==22)=false) (h43:(o==43)=false) (ha:xa=0) (hb:xb=0) (hc:xc=0) (hv:xv<n) (hm:(xm=0∧xw=0)∨((xm==0)=false∧(xm !=0)=true∧0≤xm∧xm≤99∧xw=0)):
  Calls Tryz.prog 281 #[.agg #[.int .i64 o, .int .i64 xa, .int .i64 xb, .int .i64 xc, .int .u64 xv, .int .i64 xm, .int .i64 xw], .int .i64 n, .bool true] w fun e w'=>e= .returned (.bool (true))∧Below w.heap.size w w':=by
 exact m98
theorem a72.q24 {P:Prop} (h:P:=by
 subst hb
 exact m71):P:=h
theorem a72.q101 {P:Prop} (h:P:=by
 exact m24):P:=h
open a72 in
set_option maxRecDepth 100000 in
theorem rrtT_5 {o xa xb xc xv xm xw n:Int} (w:World) (hn:0≤n∧n≤4000) (ho:1≤o∧o≤58) (hf:shpV o= .agg #[.bool true, .bool false, .bool false, .bool true, .bool false, .bool false, .bool true, .bool true]) (h22:(o==22)=false) (h43:(o==43)=false) (ha:regB xa=true) (hb:xb=0) (hc:xc=0) (hv:xv<n) (hm:(xm=0∧xw=0)∨((xm==0)=false∧(xm !=0)=true∧0≤xm∧xm≤99∧xw=0)∨((xm==0)=false∧(xm !=0)=true∧0≤xm∧xm≤99∧(xw==0)=false∧(xw !=0)=true∧0≤xw∧xw≤2)):
  Calls Tryz.prog 281 #[.agg #[.int .i64 o, .int .i64 xa, .int .i64 xb, .int .i64 xc, .int .u64 xv, .int .i64 xm, .int .i64 xw], .int .i64 n, .bool true] w fun e w'=>e= .returned (.bool (true))∧Below w.heap.size w w':=by
 exact m101
theorem a73.q24 {P:Prop} (h:P:=by
 subst ha
 subst hb
 subst hc
 all_goals
  subst hv
  rcases hm with ⟨rfl,rfl⟩ |⟨hm0,hm3,hm1,hm2,rfl⟩
  all_goals exact rrtS):P:=h
theorem a73.q95 {P:Prop} (h:P:=by
 exact m24):P:=h
open a73 in
set_option maxRecDepth 100000 in
theorem rrtT_6 {o xa xb xc xv xm xw n:Int} (w:World) (hn:0≤n∧n≤4000) (ho:1≤o∧o≤58) (hf:shpV o= .agg #[.bool false, .bool false, .bool false, .bool false, .bool false, .bool false, .bool false, .bool true]) (h22:(o==22)=false) (h43:(o==43)=false) (ha:xa=0) (hb:xb=0) (hc:xc=0) (hv:xv=0) (hm:(xm=0∧xw=0)∨((xm==0)=false∧(xm !=0)=true∧0≤xm∧xm≤99∧xw=0)):
  Calls Tryz.prog 281 #[.agg #[.int .i64 o, .int .i64 xa, .int .i64 xb, .int .i64 xc, .int .u64 xv, .int .i64 xm, .int .i64 xw], .int .i64 n, .bool true] w fun e w'=>e= .returned (.bool (true))∧Below w.heap.size w w':=by
 exact m95
end Go.Proofs.YtaangaogmnlljaaGreatDoor.Kn
