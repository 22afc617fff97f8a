/- Part 27 of what the proof stands on: KnMay. -/
import Derived.Test.YtaangaogmnlljaaGreatDoorP22
import Derived.Test.YtaangaogmnlljaaGreatDoorP23
set_option linter.unusedVariables false
namespace Go.Proofs.YtaangaogmnlljaaGreatDoor.Kn
open Go.RowKit Asm
set_option maxHeartbeats 100000000 in
theorem cmay_g37 {o xa xb xc xv xm xw n:Int} {lib:Bool} (w:World) (hn:0≤n∧n≤4000) (ho:o=37∨o=38∨o=39∨o=40∨o=41∨o=42∨o=43) (h:mayK ⟨o,xa,xb,xc,xv,xm,xw⟩ n lib=true):Calls Tryz.prog 280 #[.agg #[.int .i64 o, .int .i64 xa, .int .i64 xb, .int .i64 xc, .int .u64 xv, .int .i64 xm, .int .i64 xw], .int .i64 n, .bool lib] w fun e w'=>e= .returned (.bool true)∧Below w.heap.size w w':=by
 obtain ⟨hO,hQ,hL,hA,hB,hC,hN,hm,hw,hW⟩:=may_parts h
 simp only at hO hQ hL hA hB hC hm hw hW
 have HF:=Lib.hid (fun W=>cfields_any hO W)
 have HA:=Lib.hid (fun W=>register_any xa (hasA o) false W)
 have HB:=Lib.hid (fun W=>register_any xb (hasB o) (lessBK o) W)
 have HC:=Lib.hid (fun W=>register_any xc (hasC o) (lessCK o) W)
 rw[hA] at HA
 rw[hB] at HB
 rw[hC] at HC
 have HN:=Lib.hid (fun W=>cnum_any W hn hO hN)
 clear hA hB hC hN h hn hO
 have hX:(lib=true∧xw=0)∨(lib=true∧(xw==0)=false∧0<xm∧hasA o=true)∨(lib=false∧xm=0∧xw=0∧o≤22):=by
  by_cases h0:xw=0
  ·cases lib with
   |true=>exact Or.inl ⟨rfl,h0⟩
   |false=>
         rcases hL with e|e
         ·cases e
         ·exact Or.inr (Or.inr ⟨rfl,e.2,h0,e.1⟩)
  ·rcases hW with e|e
   ·exact absurd e h0
   ·cases lib with
    |true=>exact Or.inr (Or.inl ⟨rfl,beq_eq_false_iff_ne.2 h0,e⟩)
    |false=>
          rcases hL with e2|e2
          ·cases e2
          ·have:=e.1;omega
 clear hW hL
 rcases hX with ⟨rfl,rfl⟩ |⟨rfl,hx0,hx1,hx2⟩ |⟨rfl,rfl,rfl,hx2⟩<;>rcases ho with rfl|rfl|rfl|rfl|rfl|rfl|rfl
 all_goals first
  |exact absurd rfl (hQ rfl)
  |exact absurd hx2 (by decide)
  |skip
 all_goals (try clear hx2);(try clear hQ)
 all_goals
  simp only[hasA,hasB,hasC,hasV,lessBK,lessCK,Int.reduceBEq,Int.reduceLE,decide_true,decide_false,Bool.or_true,Bool.or_false,Bool.and_false] at HF HA HB HC HN
  go_enter Tryz.func280,Tryz.ntmps280
  go_wp2_with fail
  refine (HF.out _).mono ?_
  rintro e w1 ⟨rfl,rfl⟩
  go_wp2_with fail
  refine (HA.out _).mono ?_
  rintro e w1 ⟨rfl,rfl⟩
  go_wp2_with fail
  refine (HB.out _).mono ?_
  rintro e w1 ⟨rfl,rfl⟩
  go_wp2_with fail
  refine (HC.out _).mono ?_
  rintro e w1 ⟨rfl,rfl⟩
  go_wp2_with fail
  refine (HN.out _).mono ?_
  rintro e w1 ⟨rfl,hb1⟩
  have HB1:=Lib.hid hb1
  have x5:=(hb1.cell (p:=⟨w.heap.size,5,none⟩) (by simp)).trans (World.cell?_alloc_at _ _ _ _ rfl)
  have x6:=(hb1.cell (p:=⟨w.heap.size,6,none⟩) (by simp)).trans (World.cell?_alloc_at _ _ _ _ rfl)
  clear hb1
  go_wp2_with fail
  go_ret
  exact ⟨rfl,((Below.refl _ _).alloc (Nat.le_refl _) _).trans (HB1.out.mono (by simp))⟩
set_option maxHeartbeats 100000000 in
theorem cmay_g44 {o xa xb xc xv xm xw n:Int} {lib:Bool} (w:World) (hn:0≤n∧n≤4000) (ho:o=44∨o=45∨o=46∨o=47∨o=48∨o=49∨o=50) (h:mayK ⟨o,xa,xb,xc,xv,xm,xw⟩ n lib=true):Calls Tryz.prog 280 #[.agg #[.int .i64 o, .int .i64 xa, .int .i64 xb, .int .i64 xc, .int .u64 xv, .int .i64 xm, .int .i64 xw], .int .i64 n, .bool lib] w fun e w'=>e= .returned (.bool true)∧Below w.heap.size w w':=by
 obtain ⟨hO,hQ,hL,hA,hB,hC,hN,hm,hw,hW⟩:=may_parts h
 simp only at hO hQ hL hA hB hC hm hw hW
 have HF:=Lib.hid (fun W=>cfields_any hO W)
 have HA:=Lib.hid (fun W=>register_any xa (hasA o) false W)
 have HB:=Lib.hid (fun W=>register_any xb (hasB o) (lessBK o) W)
 have HC:=Lib.hid (fun W=>register_any xc (hasC o) (lessCK o) W)
 rw[hA] at HA
 rw[hB] at HB
 rw[hC] at HC
 have HN:=Lib.hid (fun W=>cnum_any W hn hO hN)
 clear hA hB hC hN h hn hO
 have hX:(lib=true∧xw=0)∨(lib=true∧(xw==0)=false∧0<xm∧hasA o=true)∨(lib=false∧xm=0∧xw=0∧o≤22):=by
  by_cases h0:xw=0
  ·cases lib with
   |true=>exact Or.inl ⟨rfl,h0⟩
   |false=>
         rcases hL with e|e
         ·cases e
         ·exact Or.inr (Or.inr ⟨rfl,e.2,h0,e.1⟩)
  ·rcases hW with e|e
   ·exact absurd e h0
   ·cases lib with
    |true=>exact Or.inr (Or.inl ⟨rfl,beq_eq_false_iff_ne.2 h0,e⟩)
    |false=>
          rcases hL with e2|e2
          ·cases e2
          ·have:=e.1;omega
 clear hW hL
 rcases hX with ⟨rfl,rfl⟩ |⟨rfl,hx0,hx1,hx2⟩ |⟨rfl,rfl,rfl,hx2⟩<;>rcases ho with rfl|rfl|rfl|rfl|rfl|rfl|rfl
 all_goals first
  |exact absurd rfl (hQ rfl)
  |exact absurd hx2 (by decide)
  |skip
 all_goals (try clear hx2);(try clear hQ)
 all_goals
  simp only[hasA,hasB,hasC,hasV,lessBK,lessCK,Int.reduceBEq,Int.reduceLE,decide_true,decide_false,Bool.or_true,Bool.or_false,Bool.and_false] at HF HA HB HC HN
  go_enter Tryz.func280,Tryz.ntmps280
  go_wp2_with fail
  refine (HF.out _).mono ?_
  rintro e w1 ⟨rfl,rfl⟩
  go_wp2_with fail
  refine (HA.out _).mono ?_
  rintro e w1 ⟨rfl,rfl⟩
  go_wp2_with fail
  refine (HB.out _).mono ?_
  rintro e w1 ⟨rfl,rfl⟩
  go_wp2_with fail
  refine (HC.out _).mono ?_
  rintro e w1 ⟨rfl,rfl⟩
  go_wp2_with fail
  refine (HN.out _).mono ?_
  rintro e w1 ⟨rfl,hb1⟩
  have HB1:=Lib.hid hb1
  have x5:=(hb1.cell (p:=⟨w.heap.size,5,none⟩) (by simp)).trans (World.cell?_alloc_at _ _ _ _ rfl)
  have x6:=(hb1.cell (p:=⟨w.heap.size,6,none⟩) (by simp)).trans (World.cell?_alloc_at _ _ _ _ rfl)
  clear hb1
  go_wp2_with fail
  go_ret
  exact ⟨rfl,((Below.refl _ _).alloc (Nat.le_refl _) _).trans (HB1.out.mono (by simp))⟩
set_option maxHeartbeats 100000000 in
theorem cmay_g51 {o xa xb xc xv xm xw n:Int} {lib:Bool} (w:World) (hn:0≤n∧n≤4000) (ho:o=51∨o=52∨o=53∨o=54∨o=55∨o=56∨o=57∨o=58) (h:mayK ⟨o,xa,xb,xc,xv,xm,xw⟩ n lib=true):Calls Tryz.prog 280 #[.agg #[.int .i64 o, .int .i64 xa, .int .i64 xb, .int .i64 xc, .int .u64 xv, .int .i64 xm, .int .i64 xw], .int .i64 n, .bool lib] w fun e w'=>e= .returned (.bool true)∧Below w.heap.size w w':=by
 obtain ⟨hO,hQ,hL,hA,hB,hC,hN,hm,hw,hW⟩:=may_parts h
 simp only at hO hQ hL hA hB hC hm hw hW
 have HF:=Lib.hid (fun W=>cfields_any hO W)
 have HA:=Lib.hid (fun W=>register_any xa (hasA o) false W)
 have HB:=Lib.hid (fun W=>register_any xb (hasB o) (lessBK o) W)
 have HC:=Lib.hid (fun W=>register_any xc (hasC o) (lessCK o) W)
 rw[hA] at HA
 rw[hB] at HB
 rw[hC] at HC
 have HN:=Lib.hid (fun W=>cnum_any W hn hO hN)
 clear hA hB hC hN h hn hO
 have hX:(lib=true∧xw=0)∨(lib=true∧(xw==0)=false∧0<xm∧hasA o=true)∨(lib=false∧xm=0∧xw=0∧o≤22):=by
  by_cases h0:xw=0
  ·cases lib with
   |true=>exact Or.inl ⟨rfl,h0⟩
   |false=>
         rcases hL with e|e
         ·cases e
         ·exact Or.inr (Or.inr ⟨rfl,e.2,h0,e.1⟩)
  ·rcases hW with e|e
   ·exact absurd e h0
   ·cases lib with
    |true=>exact Or.inr (Or.inl ⟨rfl,beq_eq_false_iff_ne.2 h0,e⟩)
    |false=>
          rcases hL with e2|e2
          ·cases e2
          ·have:=e.1;omega
 clear hW hL
 rcases hX with ⟨rfl,rfl⟩ |⟨rfl,hx0,hx1,hx2⟩ |⟨rfl,rfl,rfl,hx2⟩<;>rcases ho with rfl|rfl|rfl|rfl|rfl|rfl|rfl|rfl
 all_goals first
  |exact absurd rfl (hQ rfl)
  |exact absurd hx2 (by decide)
  |skip
 all_goals (try clear hx2);(try clear hQ)
 all_goals
  simp only[hasA,hasB,hasC,hasV,lessBK,lessCK,Int.reduceBEq,Int.reduceLE,decide_true,decide_false,Bool.or_true,Bool.or_false,Bool.and_false] at HF HA HB HC HN
  go_enter Tryz.func280,Tryz.ntmps280
  go_wp2_with fail
  refine (HF.out _).mono ?_
  rintro e w1 ⟨rfl,rfl⟩
  go_wp2_with fail
  refine (HA.out _).mono ?_
  rintro e w1 ⟨rfl,rfl⟩
  go_wp2_with fail
  refine (HB.out _).mono ?_
  rintro e w1 ⟨rfl,rfl⟩
  go_wp2_with fail
  refine (HC.out _).mono ?_
  rintro e w1 ⟨rfl,rfl⟩
  go_wp2_with fail
  refine (HN.out _).mono ?_
  rintro e w1 ⟨rfl,hb1⟩
  have HB1:=Lib.hid hb1
  have x5:=(hb1.cell (p:=⟨w.heap.size,5,none⟩) (by simp)).trans (World.cell?_alloc_at _ _ _ _ rfl)
  have x6:=(hb1.cell (p:=⟨w.heap.size,6,none⟩) (by simp)).trans (World.cell?_alloc_at _ _ _ _ rfl)
  clear hb1
  go_wp2_with fail
  go_ret
  exact ⟨rfl,((Below.refl _ _).alloc (Nat.le_refl _) _).trans (HB1.out.mono (by simp))⟩
theorem cmay_any (x:InsL) (n:Int) (lib:Bool) (w:World) (hn:0≤n∧n≤4000) (h:mayK x n lib=true):Calls Tryz.prog 280 #[.agg (insV x), .int .i64 n, .bool lib] w fun e w'=>e= .returned (.bool true)∧Below w.heap.size w w':=by
 have ho:=(may_parts h).1
 obtain ⟨o,xa,xb,xc,xv,xm,xw⟩:=x
 simp only at ho
 by_cases h1:o≤5
 ·exact cmay_g1 (o:=o) w hn (by omega) h
 by_cases h6:o≤11
 ·exact cmay_g6 (o:=o) w hn (by omega) h
 by_cases h12:o≤16
 ·exact cmay_g12 (o:=o) w hn (by omega) h
 by_cases h17:o≤22
 ·exact cmay_g17 (o:=o) w hn (by omega) h
 by_cases h23:o≤29
 ·exact cmay_g23 (o:=o) w hn (by omega) h
 by_cases h30:o≤36
 ·exact cmay_g30 (o:=o) w hn (by omega) h
 by_cases h37:o≤43
 ·exact cmay_g37 (o:=o) w hn (by omega) h
 by_cases h44:o≤50
 ·exact cmay_g44 (o:=o) w hn (by omega) h
 exact cmay_g51 (o:=o) w hn (by omega) h
end Go.Proofs.YtaangaogmnlljaaGreatDoor.Kn
