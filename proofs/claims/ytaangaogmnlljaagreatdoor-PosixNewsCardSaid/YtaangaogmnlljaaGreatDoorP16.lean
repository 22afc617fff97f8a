/- Part 16 of what the proof stands on: KnMayA. -/
import Derived.Test.YtaangaogmnlljaaGreatDoorP07
import Derived.Test.YtaangaogmnlljaaGreatDoorP10
set_option linter.unusedVariables false
set_option maxHeartbeats 40000000
namespace Go.Proofs.YtaangaogmnlljaaGreatDoor.Kn
open Go.RowKit Asm
theorem may_parts {x:InsL} {n:Int} {lib:Bool} (h:mayK x n lib=true):(1≤x.op∧x.op≤58)∧(lib=true→x.op≠22)∧(lib=true∨x.op≤22∧x.m=0)∧regOk x.a (hasA x.op) false=true∧regOk x.b (hasB x.op) (lessBK x.op)=true∧regOk x.c (hasC x.op) (lessCK x.op)=true∧numOk x (hasV x.op) n=true∧(0≤x.m∧x.m≤99)∧(0≤x.w∧x.w≤2)∧(x.w=0∨0<x.m∧hasA x.op=true):=by
 unfold mayK at h
 simp only[Bool.and_eq_true,Bool.or_eq_true,decide_eq_true_eq,Bool.not_eq_true',Bool.and_eq_false_iff,beq_iff_eq,beq_eq_false_iff_ne] at h
 obtain ⟨⟨⟨⟨⟨⟨⟨⟨⟨⟨⟨⟨h1,h2⟩,h3⟩,h4⟩,h5⟩,h6⟩,h7⟩,h8⟩,h9⟩,h10⟩,h11⟩,h12⟩,h13⟩:=h
 refine ⟨⟨h1,h2⟩,fun e=>?_,h4,h5,h6,h7,h8,⟨h9,h10⟩,⟨h11,h12⟩,h13⟩
 rcases h3 with h3|h3
 ·rw[e] at h3;cases h3
 ·exact h3
theorem cfields_any {o:Int} (ho:1≤o∧o≤58) (w:World):Calls Tryz.prog 276 #[.int .i64 o] w fun e w'=>e= .returned (.tuple #[.bool (hasA o), .bool (hasB o), .bool (hasC o), .bool (hasV o)])∧w=w':=by
 have e:o=1∨o=2∨o=3∨o=4∨o=5∨o=6∨o=7∨o=8∨o=9∨o=10∨o=11∨o=12∨o=13∨o=14∨o=15∨o=16∨o=17∨o=18∨o=19∨o=20∨o=21∨o=22∨o=23∨o=24∨o=25∨o=26∨o=27∨o=28∨o=29∨o=30∨o=31∨o=32∨o=33∨o=34∨o=35∨o=36∨o=37∨o=38∨o=39∨o=40∨o=41∨o=42∨o=43∨o=44∨o=45∨o=46∨o=47∨o=48∨o=49∨o=50∨o=51∨o=52∨o=53∨o=54∨o=55∨o=56∨o=57∨o=58:=by omega
 clear ho
 rcases e with rfl|rfl|rfl|rfl|rfl|rfl|rfl|rfl|rfl|rfl|rfl|rfl|rfl|rfl|rfl|rfl|rfl|rfl|rfl|rfl|rfl|rfl|rfl|rfl|rfl|rfl|rfl|rfl|rfl|rfl|rfl|rfl|rfl|rfl|rfl|rfl|rfl|rfl|rfl|rfl|rfl|rfl|rfl|rfl|rfl|rfl|rfl|rfl|rfl|rfl|rfl|rfl|rfl|rfl|rfl|rfl|rfl|rfl
 ·exact fields_1 w
 ·exact fields_2 w
 ·exact fields_3 w
 ·exact fields_4 w
 ·exact fields_5 w
 ·exact fields_6 w
 ·exact fields_7 w
 ·exact fields_8 w
 ·exact fields_9 w
 ·exact fields_10 w
 ·exact fields_11 w
 ·exact fields_12 w
 ·exact fields_13 w
 ·exact fields_14 w
 ·exact fields_15 w
 ·exact fields_16 w
 ·exact fields_17 w
 ·exact fields_18 w
 ·exact fields_19 w
 ·exact fields_20 w
 ·exact fields_21 w
 ·exact fields_22 w
 ·exact fields_23 w
 ·exact fields_24 w
 ·exact fields_25 w
 ·exact fields_26 w
 ·exact fields_27 w
 ·exact fields_28 w
 ·exact fields_29 w
 ·exact fields_30 w
 ·exact fields_31 w
 ·exact fields_32 w
 ·exact fields_33 w
 ·exact fields_34 w
 ·exact fields_35 w
 ·exact fields_36 w
 ·exact fields_37 w
 ·exact fields_38 w
 ·exact fields_39 w
 ·exact fields_40 w
 ·exact fields_41 w
 ·exact fields_42 w
 ·exact fields_43 w
 ·exact fields_44 w
 ·exact fields_45 w
 ·exact fields_46 w
 ·exact fields_47 w
 ·exact fields_48 w
 ·exact fields_49 w
 ·exact fields_50 w
 ·exact fields_51 w
 ·exact fields_52 w
 ·exact fields_53 w
 ·exact fields_54 w
 ·exact fields_55 w
 ·exact fields_56 w
 ·exact fields_57 w
 ·exact fields_58 w
theorem cnum_j {o xa xb xc xv xm xw n:Int} (w:World) (hn:0≤n∧n≤4000) (ho:o=12∨o=13∨o=14∨o=15) (hN:xv<n):Calls Tryz.prog 333 #[.agg #[.int .i64 o, .int .i64 xa, .int .i64 xb, .int .i64 xc, .int .u64 xv, .int .i64 xm, .int .i64 xw], .bool true, .int .i64 n] w fun e w'=>e= .returned (.bool true)∧Below w.heap.size w w':=by
 have hcv:IntKind.u64.wrap n=n:=by rw[IntKind.wrap_u64];omega
 rcases ho with rfl|rfl|rfl|rfl
 all_goals (go_enter Tryz.func333,Tryz.ntmps333;go_wp2;go_ret;exact ⟨rfl,(Below.refl _ _).alloc (Nat.le_refl _) _⟩)
theorem cnum_k {o xa xb xc xv xm xw n:Int} (w:World) (hn:0≤n∧n≤4000) (ho:o=22) (hN:xv<1000):Calls Tryz.prog 333 #[.agg #[.int .i64 o, .int .i64 xa, .int .i64 xb, .int .i64 xc, .int .u64 xv, .int .i64 xm, .int .i64 xw], .bool true, .int .i64 n] w fun e w'=>e= .returned (.bool true)∧Below w.heap.size w w':=by
 subst ho
 all_goals (go_enter Tryz.func333,Tryz.ntmps333;go_wp2;go_ret;exact ⟨rfl,(Below.refl _ _).alloc (Nat.le_refl _) _⟩)
theorem cnum_c {o xa xb xc xv xm xw n:Int} (w:World) (hn:0≤n∧n≤4000) (ho:o=3∨o=4∨o=5∨o=6∨o=7∨o=8∨o=9∨o=10∨o=11) (hN:xc= -1∨xv=0):Calls Tryz.prog 333 #[.agg #[.int .i64 o, .int .i64 xa, .int .i64 xb, .int .i64 xc, .int .u64 xv, .int .i64 xm, .int .i64 xw], .bool true, .int .i64 n] w fun e w'=>e= .returned (.bool true)∧Below w.heap.size w w':=by
 have hc:xc= -1∨xv=0∧(xc== -1)=false:=by
  by_cases h1:xc= -1
  ·exact Or.inl h1
  ·exact Or.inr ⟨by rcases hN with e|e;exact absurd e h1;exact e,beq_eq_false_iff_ne.2 h1⟩
 clear hN
 rcases ho with rfl|rfl|rfl|rfl|rfl|rfl|rfl|rfl|rfl
 all_goals (rcases hc with rfl|⟨rfl,h3⟩<;>(go_enter Tryz.func333,Tryz.ntmps333;go_wp2;go_ret;exact ⟨rfl,(Below.refl _ _).alloc (Nat.le_refl _) _⟩))
theorem cnum_b {o xa xb xc xv xm xw n:Int} (w:World) (hn:0≤n∧n≤4000) (ho:o=43) (hN:xb= -1∨xv=0):Calls Tryz.prog 333 #[.agg #[.int .i64 o, .int .i64 xa, .int .i64 xb, .int .i64 xc, .int .u64 xv, .int .i64 xm, .int .i64 xw], .bool true, .int .i64 n] w fun e w'=>e= .returned (.bool true)∧Below w.heap.size w w':=by
 have hc:xb= -1∨xv=0∧(xb== -1)=false:=by
  by_cases h1:xb= -1
  ·exact Or.inl h1
  ·exact Or.inr ⟨by rcases hN with e|e;exact absurd e h1;exact e,beq_eq_false_iff_ne.2 h1⟩
 clear hN
 subst ho
 all_goals (rcases hc with rfl|⟨rfl,h3⟩<;>(go_enter Tryz.func333,Tryz.ntmps333;go_wp2;go_ret;exact ⟨rfl,(Below.refl _ _).alloc (Nat.le_refl _) _⟩))
theorem cnum_v {o xa xb xc xv xm xw n:Int} (w:World) (hn:0≤n∧n≤4000) (ho:o=1∨o=17∨o=18∨o=19∨o=20∨o=21∨o=31∨o=32∨o=45):Calls Tryz.prog 333 #[.agg #[.int .i64 o, .int .i64 xa, .int .i64 xb, .int .i64 xc, .int .u64 xv, .int .i64 xm, .int .i64 xw], .bool true, .int .i64 n] w fun e w'=>e= .returned (.bool true)∧Below w.heap.size w w':=by
 rcases ho with rfl|rfl|rfl|rfl|rfl|rfl|rfl|rfl|rfl
 all_goals (go_enter Tryz.func333,Tryz.ntmps333;go_wp2;go_ret;exact ⟨rfl,(Below.refl _ _).alloc (Nat.le_refl _) _⟩)
theorem cnum_z {o xa xb xc xv xm xw n:Int} (w:World) (hn:0≤n∧n≤4000) (ho:o=2∨o=16∨o=23∨o=24∨o=25∨o=26∨o=27∨o=28∨o=29∨o=30∨o=33∨o=34∨o=35∨o=36∨o=37∨o=38∨o=39∨o=40∨o=41∨o=42∨o=44∨o=46∨o=47∨o=48∨o=49∨o=50∨o=51∨o=52∨o=53∨o=54∨o=55∨o=56∨o=57∨o=58) (hN:xv=0):Calls Tryz.prog 333 #[.agg #[.int .i64 o, .int .i64 xa, .int .i64 xb, .int .i64 xc, .int .u64 xv, .int .i64 xm, .int .i64 xw], .bool false, .int .i64 n] w fun e w'=>e= .returned (.bool true)∧Below w.heap.size w w':=by
 subst hN
 rcases ho with rfl|rfl|rfl|rfl|rfl|rfl|rfl|rfl|rfl|rfl|rfl|rfl|rfl|rfl|rfl|rfl|rfl|rfl|rfl|rfl|rfl|rfl|rfl|rfl|rfl|rfl|rfl|rfl|rfl|rfl|rfl|rfl|rfl|rfl
 all_goals (go_enter Tryz.func333,Tryz.ntmps333;go_wp2;go_ret;exact ⟨rfl,(Below.refl _ _).alloc (Nat.le_refl _) _⟩)
theorem cnum_any {o xa xb xc xv xm xw n:Int} (w:World) (hn:0≤n∧n≤4000) (ho:1≤o∧o≤58) (hN:numOk ⟨o,xa,xb,xc,xv,xm,xw⟩ (hasV o) n=true):Calls Tryz.prog 333 #[.agg #[.int .i64 o, .int .i64 xa, .int .i64 xb, .int .i64 xc, .int .u64 xv, .int .i64 xm, .int .i64 xw], .bool (hasV o), .int .i64 n] w fun e w'=>e= .returned (.bool true)∧Below w.heap.size w w':=by
 have e:(o=12∨o=13∨o=14∨o=15)∨o=22∨(o=3∨o=4∨o=5∨o=6∨o=7∨o=8∨o=9∨o=10∨o=11)∨o=43∨(o=1∨o=17∨o=18∨o=19∨o=20∨o=21∨o=31∨o=32∨o=45)∨(o=2∨o=16∨o=23∨o=24∨o=25∨o=26∨o=27∨o=28∨o=29∨o=30∨o=33∨o=34∨o=35∨o=36∨o=37∨o=38∨o=39∨o=40∨o=41∨o=42∨o=44∨o=46∨o=47∨o=48∨o=49∨o=50∨o=51∨o=52∨o=53∨o=54∨o=55∨o=56∨o=57∨o=58):=by omega
 rcases e with e|e|e|e|e|e
 ·rw[show hasV o=true by rcases e with rfl|rfl|rfl|rfl<;>rfl] at hN ⊢
  exact cnum_j w hn e (by rcases e with rfl|rfl|rfl|rfl<;>simpa[numOk] using hN)
 ·rw[show hasV o=true by subst e;rfl] at hN ⊢
  exact cnum_k w hn e (by subst e;simpa[numOk] using hN)
 ·rw[show hasV o=true by rcases e with rfl|rfl|rfl|rfl|rfl|rfl|rfl|rfl|rfl<;>rfl] at hN ⊢
  exact cnum_c w hn e (by rcases e with rfl|rfl|rfl|rfl|rfl|rfl|rfl|rfl|rfl<;>simpa[numOk] using hN)
 ·rw[show hasV o=true by subst e;rfl] at hN ⊢
  exact cnum_b w hn e (by subst e;simpa[numOk] using hN)
 ·rw[show hasV o=true by rcases e with rfl|rfl|rfl|rfl|rfl|rfl|rfl|rfl|rfl<;>rfl]
  exact cnum_v w hn e
 ·rw[show hasV o=false by rcases e with rfl|rfl|rfl|rfl|rfl|rfl|rfl|rfl|rfl|rfl|rfl|rfl|rfl|rfl|rfl|rfl|rfl|rfl|rfl|rfl|rfl|rfl|rfl|rfl|rfl|rfl|rfl|rfl|rfl|rfl|rfl|rfl|rfl|rfl<;>rfl] at hN ⊢
  exact cnum_z w hn e (by rcases e with rfl|rfl|rfl|rfl|rfl|rfl|rfl|rfl|rfl|rfl|rfl|rfl|rfl|rfl|rfl|rfl|rfl|rfl|rfl|rfl|rfl|rfl|rfl|rfl|rfl|rfl|rfl|rfl|rfl|rfl|rfl|rfl|rfl|rfl<;>simpa[numOk] using hN)
end Go.Proofs.YtaangaogmnlljaaGreatDoor.Kn
