/- Part 24 of what the proof stands on: KnMayB. -/
import Derived.Test.YtaangaogmnlljaaGreatDoorP16
set_option linter.unusedVariables false
set_option maxRecDepth 100000
set_option maxHeartbeats 40000000
namespace Go.Proofs.YtaangaogmnlljaaGreatDoor.Kn
open Go.RowKit Asm
theorem a44.q1 {P:Prop} (h:P:=by
 rcases hX with ⟨rfl,rfl⟩ |⟨rfl,hx0,hx1,hx2⟩ |⟨rfl,rfl,rfl,hx2⟩<;>rcases ho with rfl|rfl|rfl|rfl|rfl
 all_goals first
  |exact absurd rfl (hQ rfl)
  |exact absurd hx2 (by decide)
  |skip
 all_goals (try clear hx2);(try clear hQ)
 all_goals
  simp only[hasA,hasB,hasC,hasV,lessBK,lessCK,Int.reduceBEq,Int.reduceLE,decide_true,decide_false,Bool.or_true,Bool.or_false,Bool.and_true] at HF HA HB HC HN
  go_enter Tryz.func280,Tryz.ntmps280
  go_wp2_with fail
  refine (HF.out _).mono ?_
  rintro e w1 ⟨rfl,rfl⟩
  go_wp2_with fail
  refine (HA.out _).mono ?_
  rintro e w1 ⟨rfl,rfl⟩
  go_wp2_with fail
  refine (HB.out _).mono ?_
  rintro e w1 ⟨rfl,rfl⟩
  go_wp2_with fail
  refine (HC.out _).mono ?_
  rintro e w1 ⟨rfl,rfl⟩
  go_wp2_with fail
  refine (HN.out _).mono ?_
  rintro e w1 ⟨rfl,hb1⟩
  have HB1:=Lib.hid hb1
  have x5:=(hb1.cell (p:=⟨w.heap.size,5,none⟩) (by simp)).trans (World.cell?_alloc_at _ _ _ _ rfl)
  have x6:=(hb1.cell (p:=⟨w.heap.size,6,none⟩) (by simp)).trans (World.cell?_alloc_at _ _ _ _ rfl)
  clear hb1
  go_wp2_with fail
  go_ret
  exact ⟨rfl,((Below.refl _ _).alloc (Nat.le_refl _) _).trans (HB1.out.mono (by simp))⟩):P:=h
open a44 in
theorem cmay_g1 {o xa xb xc xv xm xw n:Int} {lib:Bool} (w:World) (hn:0≤n∧n≤4000) (ho:o=1∨o=2∨o=3∨o=4∨o=5) (h:mayK ⟨o,xa,xb,xc,xv,xm,xw⟩ n lib=true):Calls Tryz.prog 280 #[.agg #[.int .i64 o, .int .i64 xa, .int .i64 xb, .int .i64 xc, .int .u64 xv, .int .i64 xm, .int .i64 xw], .int .i64 n, .bool lib] w fun e w'=>e= .returned (.bool true)∧Below w.heap.size w w':=by
 exact m1
theorem a45.q1 {P:Prop} (h:P:=by
 rcases hX with ⟨rfl,rfl⟩ |⟨rfl,hx0,hx1,hx2⟩ |⟨rfl,rfl,rfl,hx2⟩<;>rcases ho with rfl|rfl|rfl|rfl|rfl|rfl
 all_goals first
  |exact absurd rfl (hQ rfl)
  |exact absurd hx2 (by decide)
  |skip
 all_goals (try clear hx2);(try clear hQ)
 all_goals
  simp only[hasA,hasB,hasC,hasV,lessBK,lessCK,Int.reduceBEq,Int.reduceLE,decide_true,Bool.or_false,Bool.and_true] at HF HA HB HC HN
  go_enter Tryz.func280,Tryz.ntmps280
  go_wp2_with fail
  refine (HF.out _).mono ?_
  rintro e w1 ⟨rfl,rfl⟩
  go_wp2_with fail
  refine (HA.out _).mono ?_
  rintro e w1 ⟨rfl,rfl⟩
  go_wp2_with fail
  refine (HB.out _).mono ?_
  rintro e w1 ⟨rfl,rfl⟩
  go_wp2_with fail
  refine (HC.out _).mono ?_
  rintro e w1 ⟨rfl,rfl⟩
  go_wp2_with fail
  refine (HN.out _).mono ?_
  rintro e w1 ⟨rfl,hb1⟩
  have HB1:=Lib.hid hb1
  have x5:=(hb1.cell (p:=⟨w.heap.size,5,none⟩) (by simp)).trans (World.cell?_alloc_at _ _ _ _ rfl)
  have x6:=(hb1.cell (p:=⟨w.heap.size,6,none⟩) (by simp)).trans (World.cell?_alloc_at _ _ _ _ rfl)
  clear hb1
  go_wp2_with fail
  go_ret
  exact ⟨rfl,((Below.refl _ _).alloc (Nat.le_refl _) _).trans (HB1.out.mono (by simp))⟩):P:=h
open a45 in
theorem cmay_g6 {o xa xb xc xv xm xw n:Int} {lib:Bool} (w:World) (hn:0≤n∧n≤4000) (ho:o=6∨o=7∨o=8∨o=9∨o=10∨o=11) (h:mayK ⟨o,xa,xb,xc,xv,xm,xw⟩ n lib=true):Calls Tryz.prog 280 #[.agg #[.int .i64 o, .int .i64 xa, .int .i64 xb, .int .i64 xc, .int .u64 xv, .int .i64 xm, .int .i64 xw], .int .i64 n, .bool lib] w fun e w'=>e= .returned (.bool true)∧Below w.heap.size w w':=by
 exact m1
theorem a46.q1 {P:Prop} (h:P:=by
 rcases hX with ⟨rfl,rfl⟩ |⟨rfl,hx0,hx1,hx2⟩ |⟨rfl,rfl,rfl,hx2⟩<;>rcases ho with rfl|rfl|rfl|rfl|rfl
 all_goals first
  |exact absurd rfl (hQ rfl)
  |exact absurd hx2 (by decide)
  |skip
 all_goals (try clear hx2);(try clear hQ)
 all_goals
  simp only[hasA,hasB,hasC,hasV,lessBK,lessCK,Int.reduceBEq,Int.reduceLE,decide_true,decide_false,Bool.or_true,Bool.or_false,Bool.and_false] at HF HA HB HC HN
  go_enter Tryz.func280,Tryz.ntmps280
  go_wp2_with fail
  refine (HF.out _).mono ?_
  rintro e w1 ⟨rfl,rfl⟩
  go_wp2_with fail
  refine (HA.out _).mono ?_
  rintro e w1 ⟨rfl,rfl⟩
  go_wp2_with fail
  refine (HB.out _).mono ?_
  rintro e w1 ⟨rfl,rfl⟩
  go_wp2_with fail
  refine (HC.out _).mono ?_
  rintro e w1 ⟨rfl,rfl⟩
  go_wp2_with fail
  refine (HN.out _).mono ?_
  rintro e w1 ⟨rfl,hb1⟩
  have HB1:=Lib.hid hb1
  have x5:=(hb1.cell (p:=⟨w.heap.size,5,none⟩) (by simp)).trans (World.cell?_alloc_at _ _ _ _ rfl)
  have x6:=(hb1.cell (p:=⟨w.heap.size,6,none⟩) (by simp)).trans (World.cell?_alloc_at _ _ _ _ rfl)
  clear hb1
  go_wp2_with fail
  go_ret
  exact ⟨rfl,((Below.refl _ _).alloc (Nat.le_refl _) _).trans (HB1.out.mono (by simp))⟩):P:=h
open a46 in
theorem cmay_g12 {o xa xb xc xv xm xw n:Int} {lib:Bool} (w:World) (hn:0≤n∧n≤4000) (ho:o=12∨o=13∨o=14∨o=15∨o=16) (h:mayK ⟨o,xa,xb,xc,xv,xm,xw⟩ n lib=true):Calls Tryz.prog 280 #[.agg #[.int .i64 o, .int .i64 xa, .int .i64 xb, .int .i64 xc, .int .u64 xv, .int .i64 xm, .int .i64 xw], .int .i64 n, .bool lib] w fun e w'=>e= .returned (.bool true)∧Below w.heap.size w w':=by
 exact m1
end Go.Proofs.YtaangaogmnlljaaGreatDoor.Kn
