/- Part 17 of what the proof stands on: KnMayA. -/
import Derived.Test.YtdlpmnmenhojfaaGreatDoorR09
import Derived.Test.YtdlpmnmenhojfaaGreatDoorR13
set_option linter.unusedVariables false
set_option maxHeartbeats 40000000
set_option maxRecDepth 100000
variable {zP:Prop}
namespace Go.Proofs.YtdlpmnmenhojfaaGreatDoor
open Go.IntKind renaming i64->Z,u64->J
open Go.Value renaming int->E,pointer->Y,slice->Sl
open Option renaming none->O,some->V
open Go.Obj renaming cells->Ce
open Go.Ending renaming returned->Rt
open Go.Proofs.Tryz renaming prog->Tp
namespace Kn
open Go.RowKit Asm
theorem vH {x:zx} {n:Int} {lib:Bool} (h:vI x n lib=true):(1≤x.op∧x.op≤58)∧(lib=true→x.op≠22)∧(lib=true∨x.op≤22∧x.m=0)∧Kw x.a (Gm x.op) false=true∧Kw x.b (hasB x.op) (kJ x.op)=true∧Kw x.c (JR x.op) (gy x.op)=true∧Gv x (Gj x.op) n=true∧(0≤x.m∧x.m≤99)∧(0≤x.w∧x.w≤2)∧(x.w=0∨0<x.m∧Gm x.op=true):=by
 unfold vI at h;simp only[Bool.and_eq_true,Bool.or_eq_true,decide_eq_true_eq,Bool.not_eq_true',Bool.and_eq_false_iff,beq_iff_eq,beq_eq_false_iff_ne] at h;obtain ⟨⟨⟨⟨⟨⟨⟨⟨⟨⟨⟨⟨h1,h2⟩,h3⟩,h4⟩,h5⟩,h6⟩,h7⟩,h8⟩,h9⟩,h10⟩,h11⟩,h12⟩,RB⟩:=h;refine ⟨⟨h1,h2⟩,fun e=>?_,h4,h5,h6,h7,h8,⟨h9,h10⟩,⟨h11,h12⟩,RB⟩;rcases h3 with h3|h3
 ·rw[e] at h3;cases h3
 ·exact h3
theorem zae {o:Int} (ho:1≤o∧o≤58) (w:World):Calls Tp 206 #[E Z o] w fun e w'=>e=Rt (.tuple #[.bool (Gm o), .bool (hasB o), .bool (JR o), .bool (Gj o)])∧w=w':=by
 have e:o=1∨o=2∨o=3∨o=4∨o=5∨o=6∨o=7∨o=8∨o=9∨o=10∨o=11∨o=12∨o=13∨o=14∨o=15∨o=16∨o=17∨o=18∨o=19∨o=20∨o=21∨o=22∨o=23∨o=24∨o=25∨o=26∨o=27∨o=28∨o=29∨o=30∨o=31∨o=32∨o=33∨o=34∨o=35∨o=36∨o=37∨o=38∨o=39∨o=40∨o=41∨o=42∨o=43∨o=44∨o=45∨o=46∨o=47∨o=48∨o=49∨o=50∨o=51∨o=52∨o=53∨o=54∨o=55∨o=56∨o=57∨o=58:=Y1;clear ho;rcases e with rfl|rfl|rfl|rfl|rfl|rfl|rfl|rfl|rfl|rfl|rfl|rfl|rfl|rfl|rfl|rfl|rfl|rfl|rfl|rfl|rfl|rfl|rfl|rfl|rfl|rfl|rfl|rfl|rfl|rfl|rfl|rfl|rfl|rfl|rfl|rfl|rfl|rfl|rfl|rfl|rfl|rfl|rfl|rfl|rfl|rfl|rfl|rfl|rfl|rfl|rfl|rfl|rfl|rfl|rfl|rfl|rfl|rfl
 ·exact zgA w
 ·exact zhb w
 ·exact zfm w
 ·exact zfV w
 ·exact zfW w
 ·exact zfa w
 ·exact zfi w
 ·exact zg1 w
 ·exact zfC w
 ·exact zct w
 ·exact zdq w
 ·exact zc5 w
 ·exact zcl w
 ·exact zcx w
 ·exact zcW w
 ·exact zcU w
 ·exact zc9 w
 ·exact zcL w
 ·exact zdF w
 ·exact zdo w
 ·exact zco w
 ·exact zcJ w
 ·exact zcq w
 ·exact zcP w
 ·exact zcO w
 ·exact zdA w
 ·exact zcX w
 ·exact zcv w
 ·exact zdI w
 ·exact zcE w
 ·exact zc8 w
 ·exact zdM w
 ·exact zcC w
 ·exact zc1 w
 ·exact zcw w
 ·exact zdJ w
 ·exact zcH w
 ·exact zcD w
 ·exact zdu w
 ·exact zc7 w
 ·exact zcA w
 ·exact zdw w
 ·exact zdC w
 ·exact zcK w
 ·exact zdz w
 ·exact zdN w
 ·exact zc2 w
 ·exact zdk w
 ·exact zdD w
 ·exact zdK w
 ·exact zcV w
 ·exact zdf w
 ·exact zdl w
 ·exact zdg w
 ·exact zdj w
 ·exact zdp w
 ·exact zdH w
 ·exact zdc w
theorem zu8 {o xa xb xc xv xm xw n:Int} (w:World) (hn:0≤n∧n≤4000) (ho:o=12∨o=13∨o=14∨o=15) (hN:xv<n):Calls Tp 265 #[.agg #[E Z o,E Z xa,E Z xb,E Z xc,E J xv,E Z xm,E Z xw], .bool true,E Z n] w fun e w'=>e=Rt (.bool true)∧Below w.heap.size w w':=by
 have hcv:IntKind.u64.wrap n=n:=Y22;rcases ho with rfl|rfl|rfl|rfl
 all_goals (go_enter Tryz.func265,Tryz.ntmps265;go_wp2;go_ret;exact ⟨rfl,(Below.refl _ _).alloc (Nat.le_refl _) _⟩)
theorem ztO {o xa xb xc xv xm xw n:Int} (w:World) (hn:0≤n∧n≤4000) (ho:o=22) (hN:xv<1000):Calls Tp 265 #[.agg #[E Z o,E Z xa,E Z xb,E Z xc,E J xv,E Z xm,E Z xw], .bool true,E Z n] w fun e w'=>e=Rt (.bool true)∧Below w.heap.size w w':=by
 subst ho;all_goals (go_enter Tryz.func265,Tryz.ntmps265;go_wp2;go_ret;exact ⟨rfl,(Below.refl _ _).alloc (Nat.le_refl _) _⟩)
theorem ztY {o xa xb xc xv xm xw n:Int} (w:World) (hn:0≤n∧n≤4000) (ho:o=3∨o=4∨o=5∨o=6∨o=7∨o=8∨o=9∨o=10∨o=11) (hN:xc= -1∨xv=0):Calls Tp 265 #[.agg #[E Z o,E Z xa,E Z xb,E Z xc,E J xv,E Z xm,E Z xw], .bool true,E Z n] w fun e w'=>e=Rt (.bool true)∧Below w.heap.size w w':=by
 have hc:xc= -1∨xv=0∧(xc== -1)=false:=by
  by_cases h1:xc= -1
  ·exact Or.inl h1
  ·exact Or.inr ⟨by rcases hN with e|e;exact absurd e h1;exact e,beq_eq_false_iff_ne.2 h1⟩
 clear hN;rcases ho with rfl|rfl|rfl|rfl|rfl|rfl|rfl|rfl|rfl
 all_goals (rcases hc with rfl|⟨rfl,h3⟩<;>(go_enter Tryz.func265,Tryz.ntmps265;go_wp2;go_ret;exact ⟨rfl,(Below.refl _ _).alloc (Nat.le_refl _) _⟩))
theorem zt5 {o xa xb xc xv xm xw n:Int} (w:World) (hn:0≤n∧n≤4000) (ho:o=43) (hN:xb= -1∨xv=0):Calls Tp 265 #[.agg #[E Z o,E Z xa,E Z xb,E Z xc,E J xv,E Z xm,E Z xw], .bool true,E Z n] w fun e w'=>e=Rt (.bool true)∧Below w.heap.size w w':=by
 have hc:xb= -1∨xv=0∧(xb== -1)=false:=by
  by_cases h1:xb= -1
  ·exact Or.inl h1
  ·exact Or.inr ⟨by rcases hN with e|e;exact absurd e h1;exact e,beq_eq_false_iff_ne.2 h1⟩
 clear hN;subst ho;all_goals (rcases hc with rfl|⟨rfl,h3⟩<;>(go_enter Tryz.func265,Tryz.ntmps265;go_wp2;go_ret;exact ⟨rfl,(Below.refl _ _).alloc (Nat.le_refl _) _⟩))
theorem ztU {o xa xb xc xv xm xw n:Int} (w:World) (hn:0≤n∧n≤4000) (ho:o=1∨o=17∨o=18∨o=19∨o=20∨o=21∨o=31∨o=32∨o=45):Calls Tp 265 #[.agg #[E Z o,E Z xa,E Z xb,E Z xc,E J xv,E Z xm,E Z xw], .bool true,E Z n] w fun e w'=>e=Rt (.bool true)∧Below w.heap.size w w':=by
 rcases ho with rfl|rfl|rfl|rfl|rfl|rfl|rfl|rfl|rfl
 all_goals (go_enter Tryz.func265,Tryz.ntmps265;go_wp2;go_ret;exact ⟨rfl,(Below.refl _ _).alloc (Nat.le_refl _) _⟩)
theorem zvw {o xa xb xc xv xm xw n:Int} (w:World) (hn:0≤n∧n≤4000) (ho:o=2∨o=16∨o=23∨o=24∨o=25∨o=26∨o=27∨o=28∨o=29∨o=30∨o=33∨o=34∨o=35∨o=36∨o=37∨o=38∨o=39∨o=40∨o=41∨o=42∨o=44∨o=46∨o=47∨o=48∨o=49∨o=50∨o=51∨o=52∨o=53∨o=54∨o=55∨o=56∨o=57∨o=58) (hN:xv=0):Calls Tp 265 #[.agg #[E Z o,E Z xa,E Z xb,E Z xc,E J xv,E Z xm,E Z xw], .bool false,E Z n] w fun e w'=>e=Rt (.bool true)∧Below w.heap.size w w':=by
 subst hN;rcases ho with rfl|rfl|rfl|rfl|rfl|rfl|rfl|rfl|rfl|rfl|rfl|rfl|rfl|rfl|rfl|rfl|rfl|rfl|rfl|rfl|rfl|rfl|rfl|rfl|rfl|rfl|rfl|rfl|rfl|rfl|rfl|rfl|rfl|rfl
 all_goals (go_enter Tryz.func265,Tryz.ntmps265;go_wp2;go_ret;exact ⟨rfl,(Below.refl _ _).alloc (Nat.le_refl _) _⟩)
theorem zpv {o xa xb xc xv xm xw n:Int} (w:World) (hn:0≤n∧n≤4000) (ho:1≤o∧o≤58) (hN:Gv ⟨o,xa,xb,xc,xv,xm,xw⟩ (Gj o) n=true):Calls Tp 265 #[.agg #[E Z o,E Z xa,E Z xb,E Z xc,E J xv,E Z xm,E Z xw], .bool (Gj o),E Z n] w fun e w'=>e=Rt (.bool true)∧Below w.heap.size w w':=by
 have e:(o=12∨o=13∨o=14∨o=15)∨o=22∨(o=3∨o=4∨o=5∨o=6∨o=7∨o=8∨o=9∨o=10∨o=11)∨o=43∨(o=1∨o=17∨o=18∨o=19∨o=20∨o=21∨o=31∨o=32∨o=45)∨(o=2∨o=16∨o=23∨o=24∨o=25∨o=26∨o=27∨o=28∨o=29∨o=30∨o=33∨o=34∨o=35∨o=36∨o=37∨o=38∨o=39∨o=40∨o=41∨o=42∨o=44∨o=46∨o=47∨o=48∨o=49∨o=50∨o=51∨o=52∨o=53∨o=54∨o=55∨o=56∨o=57∨o=58):=Y1;rcases e with e|e|e|e|e|e
 ·rw[show Gj o=true by rcases e with rfl|rfl|rfl|rfl<;>rfl] at hN ⊢;exact zu8 w hn e (by rcases e with rfl|rfl|rfl|rfl<;>simpa[Gv] using hN)
 ·rw[show Gj o=true by subst e;rfl] at hN ⊢;exact ztO w hn e (by subst e;simpa[Gv] using hN)
 ·rw[show Gj o=true by rcases e with rfl|rfl|rfl|rfl|rfl|rfl|rfl|rfl|rfl<;>rfl] at hN ⊢;exact ztY w hn e (by rcases e with rfl|rfl|rfl|rfl|rfl|rfl|rfl|rfl|rfl<;>simpa[Gv] using hN)
 ·rw[show Gj o=true by subst e;rfl] at hN ⊢;exact zt5 w hn e (by subst e;simpa[Gv] using hN)
 ·rw[show Gj o=true by rcases e with rfl|rfl|rfl|rfl|rfl|rfl|rfl|rfl|rfl<;>rfl];exact ztU w hn e
 ·rw[show Gj o=false by rcases e with rfl|rfl|rfl|rfl|rfl|rfl|rfl|rfl|rfl|rfl|rfl|rfl|rfl|rfl|rfl|rfl|rfl|rfl|rfl|rfl|rfl|rfl|rfl|rfl|rfl|rfl|rfl|rfl|rfl|rfl|rfl|rfl|rfl|rfl<;>rfl] at hN ⊢;exact zvw w hn e (by rcases e with rfl|rfl|rfl|rfl|rfl|rfl|rfl|rfl|rfl|rfl|rfl|rfl|rfl|rfl|rfl|rfl|rfl|rfl|rfl|rfl|rfl|rfl|rfl|rfl|rfl|rfl|rfl|rfl|rfl|rfl|rfl|rfl|rfl|rfl<;>simpa[Gv] using hN)
end Kn
end Go.Proofs.YtdlpmnmenhojfaaGreatDoor
