/- Part 31 of what the proof stands on: RdRtB. -/
import Derived.Test.YtaangaogmnlljaaGreatDoorP28
set_option linter.unusedVariables false
set_option maxRecDepth 100000
set_option maxHeartbeats 40000000
namespace Go.Proofs.YtaangaogmnlljaaGreatDoor.Kn
open Go.RowKit Asm
theorem a74.q24 {P:Prop} (h:P:=by
 rcases hb with ⟨hb,hb2,hb3⟩ |rfl
 all_goals
  subst hc
  all_goals
   rcases hm with ⟨rfl,rfl⟩ |⟨hm0,hm3,hm1,hm2,rfl⟩ |⟨hm0,hm3,hm1,hm2,hw0,hw3,hw1,hw2⟩
   all_goals exact rrtS):P:=h
theorem a74.q44 {P:Prop} (h:P:=by
 exact m24):P:=h
open a74 in
set_option maxRecDepth 100000 in
theorem rrtT_7 {o xa xb xc xv xm xw n:Int} (w:World) (hn:0≤n∧n≤4000) (ho:1≤o∧o≤58) (hf:shpV o= .agg #[.bool true, .bool true, .bool false, .bool true, .bool true, .bool false, .bool false, .bool true]) (h22:(o==22)=false) (h43:(o==43)=false) (ha:regB xa=true) (hb:(regB xb=true∧(xb== -1)=false∧(xb != -1)=true)∨xb= -1) (hc:xc=0) (hm:(xm=0∧xw=0)∨((xm==0)=false∧(xm !=0)=true∧0≤xm∧xm≤99∧xw=0)∨((xm==0)=false∧(xm !=0)=true∧0≤xm∧xm≤99∧(xw==0)=false∧(xw !=0)=true∧0≤xw∧xw≤2)):
  Calls Tryz.prog 281 #[.agg #[.int .i64 o, .int .i64 xa, .int .i64 xb, .int .i64 xc, .int .u64 xv, .int .i64 xm, .int .i64 xw], .int .i64 n, .bool true] w fun e w'=>e= .returned (.bool (true))∧Below w.heap.size w w':=by
 exact m44
theorem a75.q24 {P:Prop} (h:P:=by
 rcases hb with ⟨hb,hb2,hb3⟩ |rfl
 all_goals
  rcases hc with ⟨hc,hc2,hc3⟩
  all_goals
   rcases hm with ⟨rfl,rfl⟩ |⟨hm0,hm3,hm1,hm2,rfl⟩ |⟨hm0,hm3,hm1,hm2,hw0,hw3,hw1,hw2⟩
   all_goals exact rrtS):P:=h
theorem a75.q102 {P:Prop} (h:P:=by
 exact m24):P:=h
open a75 in
set_option maxRecDepth 100000 in
theorem rrtT_8 {o xa xb xc xv xm xw n:Int} (w:World) (hn:0≤n∧n≤4000) (ho:1≤o∧o≤58) (hf:shpV o= .agg #[.bool true, .bool true, .bool true, .bool true, .bool true, .bool false, .bool false, .bool true]) (h22:(o==22)=false) (h43:(o==43)=false) (ha:regB xa=true) (hb:(regB xb=true∧(xb== -1)=false∧(xb != -1)=true)∨xb= -1) (hc:(regB xc=true∧(xc== -1)=false∧(xc != -1)=true)) (hm:(xm=0∧xw=0)∨((xm==0)=false∧(xm !=0)=true∧0≤xm∧xm≤99∧xw=0)∨((xm==0)=false∧(xm !=0)=true∧0≤xm∧xm≤99∧(xw==0)=false∧(xw !=0)=true∧0≤xw∧xw≤2)):
  Calls Tryz.prog 281 #[.agg #[.int .i64 o, .int .i64 xa, .int .i64 xb, .int .i64 xc, .int .u64 xv, .int .i64 xm, .int .i64 xw], .int .i64 n, .bool true] w fun e w'=>e= .returned (.bool (true))∧Below w.heap.size w w':=by
 exact m102
theorem a76.q24 {P:Prop} (h:P:=by
 rcases hb with ⟨hb,hb2,hb3⟩ |rfl
 all_goals
  subst hc
  all_goals
   first|(have hv:=hv (by assumption);subst hv) |clear hv
   rcases hm with ⟨rfl,rfl⟩ |⟨hm0,hm3,hm1,hm2,rfl⟩ |⟨hm0,hm3,hm1,hm2,hw0,hw3,hw1,hw2⟩
   all_goals exact rrtS):P:=h
theorem a76.q44 {P:Prop} (h:P:=by
 exact m24):P:=h
open a76 in
set_option maxRecDepth 100000 in
theorem rrtT_10 {o xa xb xc xv xm xw n:Int} (w:World) (hn:0≤n∧n≤4000) (ho:1≤o∧o≤58) (hf:shpV o= .agg #[.bool true, .bool true, .bool false, .bool true, .bool true, .bool false, .bool false, .bool true]) (h22:(o==22)=false) (h43:(o==43)=true) (ha:regB xa=true) (hb:(regB xb=true∧(xb== -1)=false∧(xb != -1)=true)∨xb= -1) (hc:xc=0) (hv:(xb== -1)=false→xv=0) (hm:(xm=0∧xw=0)∨((xm==0)=false∧(xm !=0)=true∧0≤xm∧xm≤99∧xw=0)∨((xm==0)=false∧(xm !=0)=true∧0≤xm∧xm≤99∧(xw==0)=false∧(xw !=0)=true∧0≤xw∧xw≤2)):
  Calls Tryz.prog 281 #[.agg #[.int .i64 o, .int .i64 xa, .int .i64 xb, .int .i64 xc, .int .u64 xv, .int .i64 xm, .int .i64 xw], .int .i64 n, .bool true] w fun e w'=>e= .returned (.bool (true))∧Below w.heap.size w w':=by
 exact m44
theorem a77.q24 {P:Prop} (h:P:=by
 rcases hb with ⟨hb,hb2,hb3⟩
 exact m71):P:=h
open a77 in
set_option maxRecDepth 100000 in
theorem rrtT_11 {o xa xb xc xv xm xw n:Int} (w:World) (hn:0≤n∧n≤4000) (ho:1≤o∧o≤58) (hf:shpV o= .agg #[.bool true, .bool true, .bool false, .bool true, .bool false, .bool false, .bool false, .bool true]) (h22:(o==22)=false) (h43:(o==43)=false) (ha:regB xa=true) (hb:(regB xb=true∧(xb== -1)=false∧(xb != -1)=true)) (hc:xc=0) (hm:(xm=0∧xw=0)∨((xm==0)=false∧(xm !=0)=true∧0≤xm∧xm≤99∧xw=0)∨((xm==0)=false∧(xm !=0)=true∧0≤xm∧xm≤99∧(xw==0)=false∧(xw !=0)=true∧0≤xw∧xw≤2)):
  Calls Tryz.prog 281 #[.agg #[.int .i64 o, .int .i64 xa, .int .i64 xb, .int .i64 xc, .int .u64 xv, .int .i64 xm, .int .i64 xw], .int .i64 n, .bool true] w fun e w'=>e= .returned (.bool (true))∧Below w.heap.size w w':=by
 have HF:Hid (∀W,Calls Tryz.prog 264 #[.int .i64 o] W fun e w'=>e= .returned (.agg #[.bool true, .bool true, .bool false, .bool true, .bool false, .bool false, .bool false, .bool true])∧Below W.heap.size W w'):=Lib.hid fun W=>by rw[←hf];exact rof_any ho W
 exact m24
theorem a78.q24 {P:Prop} (h:P:=by
 rcases hb with ⟨hb,hb2,hb3⟩
 rcases hc with ⟨hc,hc2,hc3⟩
 all_goals
  subst hv
  rcases hm with ⟨rfl,rfl⟩ |⟨hm0,hm3,hm1,hm2,rfl⟩ |⟨hm0,hm3,hm1,hm2,hw0,hw3,hw1,hw2⟩
  all_goals exact rrtS):P:=h
open a78 in
set_option maxRecDepth 100000 in
theorem rrtT_12 {o xa xb xc xv xm xw n:Int} (w:World) (hn:0≤n∧n≤4000) (ho:1≤o∧o≤58) (hf:shpV o= .agg #[.bool true, .bool true, .bool true, .bool false, .bool false, .bool false, .bool false, .bool true]) (h22:(o==22)=false) (h43:(o==43)=false) (ha:regB xa=true) (hb:(regB xb=true∧(xb== -1)=false∧(xb != -1)=true)) (hc:(regB xc=true∧(xc== -1)=false∧(xc != -1)=true)) (hv:xv=0) (hm:(xm=0∧xw=0)∨((xm==0)=false∧(xm !=0)=true∧0≤xm∧xm≤99∧xw=0)∨((xm==0)=false∧(xm !=0)=true∧0≤xm∧xm≤99∧(xw==0)=false∧(xw !=0)=true∧0≤xw∧xw≤2)):
  Calls Tryz.prog 281 #[.agg #[.int .i64 o, .int .i64 xa, .int .i64 xb, .int .i64 xc, .int .u64 xv, .int .i64 xm, .int .i64 xw], .int .i64 n, .bool true] w fun e w'=>e= .returned (.bool (true))∧Below w.heap.size w w':=by
 have HF:Hid (∀W,Calls Tryz.prog 264 #[.int .i64 o] W fun e w'=>e= .returned (.agg #[.bool true, .bool true, .bool true, .bool false, .bool false, .bool false, .bool false, .bool true])∧Below W.heap.size W w'):=Lib.hid fun W=>by rw[←hf];exact rof_any ho W
 exact m24
theorem a79.q24 {P:Prop} (h:P:=by
 subst hb
 exact m110):P:=h
open a79 in
set_option maxRecDepth 100000 in
theorem rrtT_13 {o xa xb xc xv xm xw n:Int} (w:World) (hn:0≤n∧n≤4000) (ho:1≤o∧o≤58) (hf:shpV o= .agg #[.bool true, .bool false, .bool false, .bool false, .bool false, .bool false, .bool false, .bool true]) (h22:(o==22)=false) (h43:(o==43)=false) (ha:regB xa=true) (hb:xb=0) (hc:xc=0) (hv:xv=0) (hm:(xm=0∧xw=0)∨((xm==0)=false∧(xm !=0)=true∧0≤xm∧xm≤99∧xw=0)∨((xm==0)=false∧(xm !=0)=true∧0≤xm∧xm≤99∧(xw==0)=false∧(xw !=0)=true∧0≤xw∧xw≤2)):
  Calls Tryz.prog 281 #[.agg #[.int .i64 o, .int .i64 xa, .int .i64 xb, .int .i64 xc, .int .u64 xv, .int .i64 xm, .int .i64 xw], .int .i64 n, .bool true] w fun e w'=>e= .returned (.bool (true))∧Below w.heap.size w w':=by
 have HF:Hid (∀W,Calls Tryz.prog 264 #[.int .i64 o] W fun e w'=>e= .returned (.agg #[.bool true, .bool false, .bool false, .bool false, .bool false, .bool false, .bool false, .bool true])∧Below W.heap.size W w'):=Lib.hid fun W=>by rw[←hf];exact rof_any ho W
 exact m24
end Go.Proofs.YtaangaogmnlljaaGreatDoor.Kn
