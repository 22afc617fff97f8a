/- Part 23 of what the proof stands on: KnMayH. -/
import Derived.Test.YtaangaogmnlljaaGreatDoorP20
set_option linter.unusedVariables false
set_option maxRecDepth 100000
set_option maxHeartbeats 40000000
namespace Go.Proofs.YtaangaogmnlljaaGreatDoor.Kn
open Go.RowKit Asm
theorem fmay_g13 {o xa xb xc xv xm xw n:Int} {ra rb rc rn:Bool} (w:World) (hn:0≤n∧n≤4000) (ho:o=13∨o=14∨o=15∨o=16∨o=17) (hA:regOk xa (hasA o) false=ra) (hB:regOk xb (hasB o) (lessBK o)=rb) (hC:regOk xc (hasC o) (lessCK o)=rc) (hN:numOk ⟨o,xa,xb,xc,xv,0,xw⟩ (hasV o) n=rn):Calls Tryz.prog 280 #[.agg #[.int .i64 o, .int .i64 xa, .int .i64 xb, .int .i64 xc, .int .u64 xv, .int .i64 0, .int .i64 xw], .int .i64 n, .bool false] w fun e w'=>e= .returned (.bool (ra&&rb&&rc&&rn&&xw==0))∧Below w.heap.size w w':=by
 exact m8
theorem fmay_g18 {o xa xb xc xv xm xw n:Int} {ra rb rc rn:Bool} (w:World) (hn:0≤n∧n≤4000) (ho:o=18∨o=19∨o=20∨o=21∨o=22) (hA:regOk xa (hasA o) false=ra) (hB:regOk xb (hasB o) (lessBK o)=rb) (hC:regOk xc (hasC o) (lessCK o)=rc) (hN:numOk ⟨o,xa,xb,xc,xv,0,xw⟩ (hasV o) n=rn):Calls Tryz.prog 280 #[.agg #[.int .i64 o, .int .i64 xa, .int .i64 xb, .int .i64 xc, .int .u64 xv, .int .i64 0, .int .i64 xw], .int .i64 n, .bool false] w fun e w'=>e= .returned (.bool (ra&&rb&&rc&&rn&&xw==0))∧Below w.heap.size w w':=by
 exact m8
end Go.Proofs.YtaangaogmnlljaaGreatDoor.Kn
