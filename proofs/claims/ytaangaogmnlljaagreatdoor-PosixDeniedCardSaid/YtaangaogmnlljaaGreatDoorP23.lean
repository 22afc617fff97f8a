/- Part 23 of what the proof stands on: KnMayC. -/
import Derived.Test.YtaangaogmnlljaaGreatDoorP19
set_option linter.unusedVariables false
namespace Go.Proofs.YtaangaogmnlljaaGreatDoor.Kn
open Go.RowKit Asm
set_option maxHeartbeats 100000000 in
theorem cmay_g17 {o xa xb xc xv xm xw n:Int} {lib:Bool} (w:World) (hn:0≤n∧n≤4000) (ho:o=17∨o=18∨o=19∨o=20∨o=21∨o=22) (h:mayK ⟨o,xa,xb,xc,xv,xm,xw⟩ n lib=true):Calls Tryz.prog 280 #[.agg #[.int .i64 o, .int .i64 xa, .int .i64 xb, .int .i64 xc, .int .u64 xv, .int .i64 xm, .int .i64 xw], .int .i64 n, .bool lib] w fun e w'=>e= .returned (.bool true)∧Below w.heap.size w w':=by
 obtain ⟨hO,hQ,hL,hA,hB,hC,hN,hm,hw,hW⟩:=may_parts h
 simp only at hO hQ hL hA hB hC hm hw hW
 have HF:=Lib.hid (fun W=>cfields_any hO W)
 have HA:=Lib.hid (fun W=>register_any xa (hasA o) false W)
 have HB:=Lib.hid (fun W=>register_any xb (hasB o) (lessBK o) W)
 have HC:=Lib.hid (fun W=>register_any xc (hasC o) (lessCK o) W)
 rw[hA] at HA
 rw[hB] at HB
 rw[hC] at HC
 have HN:=Lib.hid (fun W=>cnum_any W hn hO hN)
 clear hA hB hC hN h hn hO
 have hX:(lib=true∧xw=0)∨(lib=true∧(xw==0)=false∧0<xm∧hasA o=true)∨(lib=false∧xm=0∧xw=0∧o≤22):=by
  by_cases h0:xw=0
  ·cases lib with
   |true=>exact Or.inl ⟨rfl,h0⟩
   |false=>
         rcases hL with e|e
         ·cases e
         ·exact Or.inr (Or.inr ⟨rfl,e.2,h0,e.1⟩)
  ·rcases hW with e|e
   ·exact absurd e h0
   ·cases lib with
    |true=>exact Or.inr (Or.inl ⟨rfl,beq_eq_false_iff_ne.2 h0,e⟩)
    |false=>
          rcases hL with e2|e2
          ·cases e2
          ·have:=e.1;omega
 clear hW hL
 rcases hX with ⟨rfl,rfl⟩ |⟨rfl,hx0,hx1,hx2⟩ |⟨rfl,rfl,rfl,hx2⟩<;>rcases ho with rfl|rfl|rfl|rfl|rfl|rfl
 all_goals first
  |exact absurd rfl (hQ rfl)
  |exact absurd hx2 (by decide)
  |skip
 all_goals (try clear hx2);(try clear hQ)
 all_goals
  simp only[hasA,hasB,hasC,hasV,lessBK,lessCK,Int.reduceBEq,Int.reduceLE,decide_true,decide_false,Bool.or_true,Bool.or_false,Bool.and_false] at HF HA HB HC HN
  go_enter Tryz.func280,Tryz.ntmps280
  go_wp2_with fail
  refine (HF.out _).mono ?_
  rintro e w1 ⟨rfl,rfl⟩
  go_wp2_with fail
  refine (HA.out _).mono ?_
  rintro e w1 ⟨rfl,rfl⟩
  go_wp2_with fail
  refine (HB.out _).mono ?_
  rintro e w1 ⟨rfl,rfl⟩
  go_wp2_with fail
  refine (HC.out _).mono ?_
  rintro e w1 ⟨rfl,rfl⟩
  go_wp2_with fail
  refine (HN.out _).mono ?_
  rintro e w1 ⟨rfl,hb1⟩
  have HB1:=Lib.hid hb1
  have x5:=(hb1.cell (p:=⟨w.heap.size,5,none⟩) (by simp)).trans (World.cell?_alloc_at _ _ _ _ rfl)
  have x6:=(hb1.cell (p:=⟨w.heap.size,6,none⟩) (by simp)).trans (World.cell?_alloc_at _ _ _ _ rfl)
  clear hb1
  go_wp2_with fail
  go_ret
  exact ⟨rfl,((Below.refl _ _).alloc (Nat.le_refl _) _).trans (HB1.out.mono (by simp))⟩
set_option maxHeartbeats 100000000 in
theorem cmay_g23 {o xa xb xc xv xm xw n:Int} {lib:Bool} (w:World) (hn:0≤n∧n≤4000) (ho:o=23∨o=24∨o=25∨o=26∨o=27∨o=28∨o=29) (h:mayK ⟨o,xa,xb,xc,xv,xm,xw⟩ n lib=true):Calls Tryz.prog 280 #[.agg #[.int .i64 o, .int .i64 xa, .int .i64 xb, .int .i64 xc, .int .u64 xv, .int .i64 xm, .int .i64 xw], .int .i64 n, .bool lib] w fun e w'=>e= .returned (.bool true)∧Below w.heap.size w w':=by
 obtain ⟨hO,hQ,hL,hA,hB,hC,hN,hm,hw,hW⟩:=may_parts h
 simp only at hO hQ hL hA hB hC hm hw hW
 have HF:=Lib.hid (fun W=>cfields_any hO W)
 have HA:=Lib.hid (fun W=>register_any xa (hasA o) false W)
 have HB:=Lib.hid (fun W=>register_any xb (hasB o) (lessBK o) W)
 have HC:=Lib.hid (fun W=>register_any xc (hasC o) (lessCK o) W)
 rw[hA] at HA
 rw[hB] at HB
 rw[hC] at HC
 have HN:=Lib.hid (fun W=>cnum_any W hn hO hN)
 clear hA hB hC hN h hn hO
 have hX:(lib=true∧xw=0)∨(lib=true∧(xw==0)=false∧0<xm∧hasA o=true)∨(lib=false∧xm=0∧xw=0∧o≤22):=by
  by_cases h0:xw=0
  ·cases lib with
   |true=>exact Or.inl ⟨rfl,h0⟩
   |false=>
         rcases hL with e|e
         ·cases e
         ·exact Or.inr (Or.inr ⟨rfl,e.2,h0,e.1⟩)
  ·rcases hW with e|e
   ·exact absurd e h0
   ·cases lib with
    |true=>exact Or.inr (Or.inl ⟨rfl,beq_eq_false_iff_ne.2 h0,e⟩)
    |false=>
          rcases hL with e2|e2
          ·cases e2
          ·have:=e.1;omega
 clear hW hL
 rcases hX with ⟨rfl,rfl⟩ |⟨rfl,hx0,hx1,hx2⟩ |⟨rfl,rfl,rfl,hx2⟩<;>rcases ho with rfl|rfl|rfl|rfl|rfl|rfl|rfl
 all_goals first
  |exact absurd rfl (hQ rfl)
  |exact absurd hx2 (by decide)
  |skip
 all_goals (try clear hx2);(try clear hQ)
 all_goals
  simp only[hasA,hasB,hasC,hasV,lessBK,lessCK,Int.reduceBEq,Int.reduceLE,decide_true,decide_false,Bool.or_true,Bool.or_false,Bool.and_false] at HF HA HB HC HN
  go_enter Tryz.func280,Tryz.ntmps280
  go_wp2_with fail
  refine (HF.out _).mono ?_
  rintro e w1 ⟨rfl,rfl⟩
  go_wp2_with fail
  refine (HA.out _).mono ?_
  rintro e w1 ⟨rfl,rfl⟩
  go_wp2_with fail
  refine (HB.out _).mono ?_
  rintro e w1 ⟨rfl,rfl⟩
  go_wp2_with fail
  refine (HC.out _).mono ?_
  rintro e w1 ⟨rfl,rfl⟩
  go_wp2_with fail
  refine (HN.out _).mono ?_
  rintro e w1 ⟨rfl,hb1⟩
  have HB1:=Lib.hid hb1
  have x5:=(hb1.cell (p:=⟨w.heap.size,5,none⟩) (by simp)).trans (World.cell?_alloc_at _ _ _ _ rfl)
  have x6:=(hb1.cell (p:=⟨w.heap.size,6,none⟩) (by simp)).trans (World.cell?_alloc_at _ _ _ _ rfl)
  clear hb1
  go_wp2_with fail
  go_ret
  exact ⟨rfl,((Below.refl _ _).alloc (Nat.le_refl _) _).trans (HB1.out.mono (by simp))⟩
set_option maxHeartbeats 100000000 in
theorem cmay_g30 {o xa xb xc xv xm xw n:Int} {lib:Bool} (w:World) (hn:0≤n∧n≤4000) (ho:o=30∨o=31∨o=32∨o=33∨o=34∨o=35∨o=36) (h:mayK ⟨o,xa,xb,xc,xv,xm,xw⟩ n lib=true):Calls Tryz.prog 280 #[.agg #[.int .i64 o, .int .i64 xa, .int .i64 xb, .int .i64 xc, .int .u64 xv, .int .i64 xm, .int .i64 xw], .int .i64 n, .bool lib] w fun e w'=>e= .returned (.bool true)∧Below w.heap.size w w':=by
 obtain ⟨hO,hQ,hL,hA,hB,hC,hN,hm,hw,hW⟩:=may_parts h
 simp only at hO hQ hL hA hB hC hm hw hW
 have HF:=Lib.hid (fun W=>cfields_any hO W)
 have HA:=Lib.hid (fun W=>register_any xa (hasA o) false W)
 have HB:=Lib.hid (fun W=>register_any xb (hasB o) (lessBK o) W)
 have HC:=Lib.hid (fun W=>register_any xc (hasC o) (lessCK o) W)
 rw[hA] at HA
 rw[hB] at HB
 rw[hC] at HC
 have HN:=Lib.hid (fun W=>cnum_any W hn hO hN)
 clear hA hB hC hN h hn hO
 have hX:(lib=true∧xw=0)∨(lib=true∧(xw==0)=false∧0<xm∧hasA o=true)∨(lib=false∧xm=0∧xw=0∧o≤22):=by
  by_cases h0:xw=0
  ·cases lib with
   |true=>exact Or.inl ⟨rfl,h0⟩
   |false=>
         rcases hL with e|e
         ·cases e
         ·exact Or.inr (Or.inr ⟨rfl,e.2,h0,e.1⟩)
  ·rcases hW with e|e
   ·exact absurd e h0
   ·cases lib with
    |true=>exact Or.inr (Or.inl ⟨rfl,beq_eq_false_iff_ne.2 h0,e⟩)
    |false=>
          rcases hL with e2|e2
          ·cases e2
          ·have:=e.1;omega
 clear hW hL
 rcases hX with ⟨rfl,rfl⟩ |⟨rfl,hx0,hx1,hx2⟩ |⟨rfl,rfl,rfl,hx2⟩<;>rcases ho with rfl|rfl|rfl|rfl|rfl|rfl|rfl
 all_goals first
  |exact absurd rfl (hQ rfl)
  |exact absurd hx2 (by decide)
  |skip
 all_goals (try clear hx2);(try clear hQ)
 all_goals
  simp only[hasA,hasB,hasC,hasV,lessBK,lessCK,Int.reduceBEq,Int.reduceLE,decide_true,decide_false,Bool.or_true,Bool.or_false,Bool.and_false] at HF HA HB HC HN
  go_enter Tryz.func280,Tryz.ntmps280
  go_wp2_with fail
  refine (HF.out _).mono ?_
  rintro e w1 ⟨rfl,rfl⟩
  go_wp2_with fail
  refine (HA.out _).mono ?_
  rintro e w1 ⟨rfl,rfl⟩
  go_wp2_with fail
  refine (HB.out _).mono ?_
  rintro e w1 ⟨rfl,rfl⟩
  go_wp2_with fail
  refine (HC.out _).mono ?_
  rintro e w1 ⟨rfl,rfl⟩
  go_wp2_with fail
  refine (HN.out _).mono ?_
  rintro e w1 ⟨rfl,hb1⟩
  have HB1:=Lib.hid hb1
  have x5:=(hb1.cell (p:=⟨w.heap.size,5,none⟩) (by simp)).trans (World.cell?_alloc_at _ _ _ _ rfl)
  have x6:=(hb1.cell (p:=⟨w.heap.size,6,none⟩) (by simp)).trans (World.cell?_alloc_at _ _ _ _ rfl)
  clear hb1
  go_wp2_with fail
  go_ret
  exact ⟨rfl,((Below.refl _ _).alloc (Nat.le_refl _) _).trans (HB1.out.mono (by simp))⟩
end Go.Proofs.YtaangaogmnlljaaGreatDoor.Kn
