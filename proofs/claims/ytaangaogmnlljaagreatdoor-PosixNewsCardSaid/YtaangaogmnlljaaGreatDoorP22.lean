/- Part 22 of what the proof stands on: KnMayG. -/
import Derived.Test.YtaangaogmnlljaaGreatDoorP20
set_option linter.unusedVariables false
set_option maxRecDepth 100000
set_option maxHeartbeats 40000000
namespace Go.Proofs.YtaangaogmnlljaaGreatDoor.Kn
open Go.RowKit Asm
theorem fmay_g1 {o xa xb xc xv xm xw n:Int} {ra rb rc rn:Bool} (w:World) (hn:0≤n∧n≤4000) (ho:o=1∨o=2∨o=3∨o=4) (hA:regOk xa (hasA o) false=ra) (hB:regOk xb (hasB o) (lessBK o)=rb) (hC:regOk xc (hasC o) (lessCK o)=rc) (hN:numOk ⟨o,xa,xb,xc,xv,0,xw⟩ (hasV o) n=rn):Calls Tryz.prog 280 #[.agg #[.int .i64 o, .int .i64 xa, .int .i64 xb, .int .i64 xc, .int .u64 xv, .int .i64 0, .int .i64 xw], .int .i64 n, .bool false] w fun e w'=>e= .returned (.bool (ra&&rb&&rc&&rn&&xw==0))∧Below w.heap.size w w':=by
 exact m3
theorem fmay_g5 {o xa xb xc xv xm xw n:Int} {ra rb rc rn:Bool} (w:World) (hn:0≤n∧n≤4000) (ho:o=5∨o=6∨o=7∨o=8) (hA:regOk xa (hasA o) false=ra) (hB:regOk xb (hasB o) (lessBK o)=rb) (hC:regOk xc (hasC o) (lessCK o)=rc) (hN:numOk ⟨o,xa,xb,xc,xv,0,xw⟩ (hasV o) n=rn):Calls Tryz.prog 280 #[.agg #[.int .i64 o, .int .i64 xa, .int .i64 xb, .int .i64 xc, .int .u64 xv, .int .i64 0, .int .i64 xw], .int .i64 n, .bool false] w fun e w'=>e= .returned (.bool (ra&&rb&&rc&&rn&&xw==0))∧Below w.heap.size w w':=by
 exact m3
theorem fmay_g9 {o xa xb xc xv xm xw n:Int} {ra rb rc rn:Bool} (w:World) (hn:0≤n∧n≤4000) (ho:o=9∨o=10∨o=11∨o=12) (hA:regOk xa (hasA o) false=ra) (hB:regOk xb (hasB o) (lessBK o)=rb) (hC:regOk xc (hasC o) (lessCK o)=rc) (hN:numOk ⟨o,xa,xb,xc,xv,0,xw⟩ (hasV o) n=rn):Calls Tryz.prog 280 #[.agg #[.int .i64 o, .int .i64 xa, .int .i64 xb, .int .i64 xc, .int .u64 xv, .int .i64 0, .int .i64 xw], .int .i64 n, .bool false] w fun e w'=>e= .returned (.bool (ra&&rb&&rc&&rn&&xw==0))∧Below w.heap.size w w':=by
 exact m3
end Go.Proofs.YtaangaogmnlljaaGreatDoor.Kn
