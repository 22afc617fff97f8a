/- Part 21 of what the proof stands on: KnMayB. -/
import Derived.Test.YtdlpmnmenhojfaaGreatDoorR17
set_option linter.unusedVariables false
set_option maxHeartbeats 40000000
set_option maxRecDepth 100000
variable {zP:Prop}
namespace Go.Proofs.YtdlpmnmenhojfaaGreatDoor
open Go.IntKind renaming i64->Z,u64->J
open Go.Value renaming int->E,pointer->Y,slice->Sl
open Option renaming none->O,some->V
open Go.Obj renaming cells->Ce
open Go.Ending renaming returned->Rt
open Go.Proofs.Tryz renaming prog->Tp
namespace Kn
open Go.RowKit Asm
theorem a52.Q1 (h:zP:=by
 rcases hX with ⟨rfl,rfl⟩ |⟨rfl,hx0,hx1,hx2⟩ |⟨rfl,rfl,rfl,hx2⟩<;>rcases ho with rfl|rfl|rfl|rfl|rfl
 all_goals first
  |exact absurd rfl (hQ rfl)
  |exact absurd hx2 Y2
  |skip
 all_goals (try clear hx2);(try clear hQ)
 all_goals
  simp only[Gm,hasB,JR,Gj,kJ,gy,Int.reduceBEq,Int.reduceLE,decide_true,decide_false,Bool.or_true,Bool.or_false,Bool.and_true] at HF HA HB HC HN
  go_enter Tryz.func210,Tryz.ntmps210
  go_wp2_with fail
  refine (HF.out _).mono ?_
  rintro e w1 ⟨rfl,rfl⟩
  go_wp2_with fail
  refine (HA.out _).mono ?_
  rintro e w1 ⟨rfl,rfl⟩
  go_wp2_with fail
  refine (HB.out _).mono ?_
  rintro e w1 ⟨rfl,rfl⟩
  go_wp2_with fail
  refine (HC.out _).mono ?_
  rintro e w1 ⟨rfl,rfl⟩
  go_wp2_with fail
  refine (HN.out _).mono ?_
  rintro e w1 ⟨rfl,hb1⟩
  have aL:=Y0 hb1
  have x5:=(hb1.cell (p:=⟨w.heap.size,5,O⟩) Y7).trans (World.cell?_alloc_at _ _ _ _ rfl)
  have x6:=(hb1.cell (p:=⟨w.heap.size,6,O⟩) Y7).trans (World.cell?_alloc_at _ _ _ _ rfl)
  clear hb1
  go_wp2_with fail
  go_ret
  exact ⟨rfl,((Below.refl _ _).alloc (Nat.le_refl _) _).trans (aL.out.mono Y7)⟩):zP:=h
open a52 in
theorem zsZ {o xa xb xc xv xm xw n:Int} {lib:Bool} (w:World) (hn:0≤n∧n≤4000) (ho:o=1∨o=2∨o=3∨o=4∨o=5) (h:vI ⟨o,xa,xb,xc,xv,xm,xw⟩ n lib=true):Calls Tp 210 #[.agg #[E Z o,E Z xa,E Z xb,E Z xc,E J xv,E Z xm,E Z xw],E Z n, .bool lib] w fun e w'=>e=Rt (.bool true)∧Below w.heap.size w w':=by
 exact J1
theorem a53.Q1 (h:zP:=by
 rcases hX with ⟨rfl,rfl⟩ |⟨rfl,hx0,hx1,hx2⟩ |⟨rfl,rfl,rfl,hx2⟩<;>rcases ho with rfl|rfl|rfl|rfl|rfl|rfl
 all_goals first
  |exact absurd rfl (hQ rfl)
  |exact absurd hx2 Y2
  |skip
 all_goals (try clear hx2);(try clear hQ)
 all_goals
  simp only[Gm,hasB,JR,Gj,kJ,gy,Int.reduceBEq,Int.reduceLE,decide_true,Bool.or_false,Bool.and_true] at HF HA HB HC HN
  go_enter Tryz.func210,Tryz.ntmps210
  go_wp2_with fail
  refine (HF.out _).mono ?_
  rintro e w1 ⟨rfl,rfl⟩
  go_wp2_with fail
  refine (HA.out _).mono ?_
  rintro e w1 ⟨rfl,rfl⟩
  go_wp2_with fail
  refine (HB.out _).mono ?_
  rintro e w1 ⟨rfl,rfl⟩
  go_wp2_with fail
  refine (HC.out _).mono ?_
  rintro e w1 ⟨rfl,rfl⟩
  go_wp2_with fail
  refine (HN.out _).mono ?_
  rintro e w1 ⟨rfl,hb1⟩
  have aL:=Y0 hb1
  have x5:=(hb1.cell (p:=⟨w.heap.size,5,O⟩) Y7).trans (World.cell?_alloc_at _ _ _ _ rfl)
  have x6:=(hb1.cell (p:=⟨w.heap.size,6,O⟩) Y7).trans (World.cell?_alloc_at _ _ _ _ rfl)
  clear hb1
  go_wp2_with fail
  go_ret
  exact ⟨rfl,((Below.refl _ _).alloc (Nat.le_refl _) _).trans (aL.out.mono Y7)⟩):zP:=h
open a53 in
theorem zsl {o xa xb xc xv xm xw n:Int} {lib:Bool} (w:World) (hn:0≤n∧n≤4000) (ho:o=6∨o=7∨o=8∨o=9∨o=10∨o=11) (h:vI ⟨o,xa,xb,xc,xv,xm,xw⟩ n lib=true):Calls Tp 210 #[.agg #[E Z o,E Z xa,E Z xb,E Z xc,E J xv,E Z xm,E Z xw],E Z n, .bool lib] w fun e w'=>e=Rt (.bool true)∧Below w.heap.size w w':=by
 exact J1
theorem a54.Q1 (h:zP:=by
 rcases hX with ⟨rfl,rfl⟩ |⟨rfl,hx0,hx1,hx2⟩ |⟨rfl,rfl,rfl,hx2⟩<;>rcases ho with rfl|rfl|rfl|rfl|rfl
 all_goals first
  |exact absurd rfl (hQ rfl)
  |exact absurd hx2 Y2
  |skip
 all_goals (try clear hx2);(try clear hQ)
 all_goals
  simp only[Gm,hasB,JR,Gj,kJ,gy,Int.reduceBEq,Int.reduceLE,decide_true,decide_false,Bool.or_true,Bool.or_false,Bool.and_false] at HF HA HB HC HN
  go_enter Tryz.func210,Tryz.ntmps210
  go_wp2_with fail
  refine (HF.out _).mono ?_
  rintro e w1 ⟨rfl,rfl⟩
  go_wp2_with fail
  refine (HA.out _).mono ?_
  rintro e w1 ⟨rfl,rfl⟩
  go_wp2_with fail
  refine (HB.out _).mono ?_
  rintro e w1 ⟨rfl,rfl⟩
  go_wp2_with fail
  refine (HC.out _).mono ?_
  rintro e w1 ⟨rfl,rfl⟩
  go_wp2_with fail
  refine (HN.out _).mono ?_
  rintro e w1 ⟨rfl,hb1⟩
  have aL:=Y0 hb1
  have x5:=(hb1.cell (p:=⟨w.heap.size,5,O⟩) Y7).trans (World.cell?_alloc_at _ _ _ _ rfl)
  have x6:=(hb1.cell (p:=⟨w.heap.size,6,O⟩) Y7).trans (World.cell?_alloc_at _ _ _ _ rfl)
  clear hb1
  go_wp2_with fail
  go_ret
  exact ⟨rfl,((Below.refl _ _).alloc (Nat.le_refl _) _).trans (aL.out.mono Y7)⟩):zP:=h
open a54 in
theorem zoU {o xa xb xc xv xm xw n:Int} {lib:Bool} (w:World) (hn:0≤n∧n≤4000) (ho:o=12∨o=13∨o=14∨o=15∨o=16) (h:vI ⟨o,xa,xb,xc,xv,xm,xw⟩ n lib=true):Calls Tp 210 #[.agg #[E Z o,E Z xa,E Z xb,E Z xc,E J xv,E Z xm,E Z xw],E Z n, .bool lib] w fun e w'=>e=Rt (.bool true)∧Below w.heap.size w w':=by
 exact J1
end Kn
end Go.Proofs.YtdlpmnmenhojfaaGreatDoor
