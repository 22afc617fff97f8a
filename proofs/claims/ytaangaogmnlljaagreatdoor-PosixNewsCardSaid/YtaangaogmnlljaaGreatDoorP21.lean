/- Part 21 of what the proof stands on: RdOf. -/
import Derived.Test.YtaangaogmnlljaaGreatDoorP16
set_option linter.unusedVariables false
set_option maxRecDepth 100000
set_option maxHeartbeats 40000000
namespace Go.Proofs.YtaangaogmnlljaaGreatDoor.Kn
open Go.RowKit Asm
def jumpsK (op:Int):Bool:=op==12||op==13||op==14||op==15
def shpV (o:Int):Value:= .agg #[.bool (hasA o), .bool (hasB o), .bool (hasC o), .bool (hasV o), .bool (lessBK o), .bool (lessCK o), .bool (jumpsK o), .bool true]
def regB (r:Int):Bool:=decide (0≤r)&&decide (r<32)
theorem rreg_any (r:Int) (w:World):Calls Tryz.prog 334 #[.int .i64 r] w fun e w'=>e= .returned (.bool (regB r))∧w=w':=by
 unfold regB
 by_cases h:0≤r
 ·have h1:decide (0≤r)=true:=decide_eq_true h
  exact m124
 ·have h1:decide (0≤r)=false:=decide_eq_false h
  exact m124
theorem rof_g1 {o:Int} (w:World) (ho:o=1∨o=2∨o=3∨o=4∨o=5∨o=6∨o=7∨o=8∨o=9∨o=10∨o=11∨o=12∨o=13∨o=14∨o=15):Calls Tryz.prog 264 #[.int .i64 o] w fun e w'=>e= .returned (shpV o)∧Below w.heap.size w w':=by
 exact m26
theorem rof_g16 {o:Int} (w:World) (ho:o=16∨o=17∨o=18∨o=19∨o=20∨o=21∨o=22∨o=23∨o=24∨o=25∨o=26∨o=27∨o=28∨o=29∨o=30):Calls Tryz.prog 264 #[.int .i64 o] w fun e w'=>e= .returned (shpV o)∧Below w.heap.size w w':=by
 exact m26
theorem rof_g31 {o:Int} (w:World) (ho:o=31∨o=32∨o=33∨o=34∨o=35∨o=36∨o=37∨o=38∨o=39∨o=40∨o=41∨o=42∨o=43∨o=44∨o=45):Calls Tryz.prog 264 #[.int .i64 o] w fun e w'=>e= .returned (shpV o)∧Below w.heap.size w w':=by
 exact m26
theorem rof_g46 {o:Int} (w:World) (ho:o=46∨o=47∨o=48∨o=49∨o=50∨o=51∨o=52∨o=53∨o=54∨o=55∨o=56∨o=57∨o=58):Calls Tryz.prog 264 #[.int .i64 o] w fun e w'=>e= .returned (shpV o)∧Below w.heap.size w w':=by
 rcases ho with rfl|rfl|rfl|rfl|rfl|rfl|rfl|rfl|rfl|rfl|rfl|rfl|rfl
 all_goals
  go_enter Tryz.func264,Tryz.ntmps264
  go_wp2
  refine bodyPost_ret (v:=shpV _) ?hres rfl ⟨rfl,?_⟩
  case hres=>simp[results,Tryz.results264,go_sem,shpV,hasA,hasB,hasC,hasV,lessBK,lessCK,jumpsK]
  repeat (first|exact Below.refl _ _|refine Below.setCell ?_ (by simp) _|refine Below.alloc ?_ (by simp) _)
theorem rof_any {o:Int} (ho:1≤o∧o≤58) (w:World):Calls Tryz.prog 264 #[.int .i64 o] w fun e w'=>e= .returned (shpV o)∧Below w.heap.size w w':=by
 have e:(o=1∨o=2∨o=3∨o=4∨o=5∨o=6∨o=7∨o=8∨o=9∨o=10∨o=11∨o=12∨o=13∨o=14∨o=15)∨(o=16∨o=17∨o=18∨o=19∨o=20∨o=21∨o=22∨o=23∨o=24∨o=25∨o=26∨o=27∨o=28∨o=29∨o=30)∨(o=31∨o=32∨o=33∨o=34∨o=35∨o=36∨o=37∨o=38∨o=39∨o=40∨o=41∨o=42∨o=43∨o=44∨o=45)∨(o=46∨o=47∨o=48∨o=49∨o=50∨o=51∨o=52∨o=53∨o=54∨o=55∨o=56∨o=57∨o=58):=by omega
 rcases e with e|e|e|e
 ·exact rof_g1 w e
 ·exact rof_g16 w e
 ·exact rof_g31 w e
 ·exact rof_g46 w e
theorem rof_no {o:Int} (ho:o<1∨58<o) (w:World):Calls Tryz.prog 264 #[.int .i64 o] w fun e w'=>e= .returned (.agg #[.bool false, .bool false, .bool false, .bool false, .bool false, .bool false, .bool false, .bool false])∧Below w.heap.size w w':=by
 have b1:(o==1)=false:=beq_eq_false_iff_ne.2 (by omega)
 have b2:(o==2)=false:=beq_eq_false_iff_ne.2 (by omega)
 have b3:(o==3)=false:=beq_eq_false_iff_ne.2 (by omega)
 have b4:(o==4)=false:=beq_eq_false_iff_ne.2 (by omega)
 have b5:(o==5)=false:=beq_eq_false_iff_ne.2 (by omega)
 have b6:(o==6)=false:=beq_eq_false_iff_ne.2 (by omega)
 have b7:(o==7)=false:=beq_eq_false_iff_ne.2 (by omega)
 have b8:(o==8)=false:=beq_eq_false_iff_ne.2 (by omega)
 have b9:(o==9)=false:=beq_eq_false_iff_ne.2 (by omega)
 have b10:(o==10)=false:=beq_eq_false_iff_ne.2 (by omega)
 have b11:(o==11)=false:=beq_eq_false_iff_ne.2 (by omega)
 have b12:(o==12)=false:=beq_eq_false_iff_ne.2 (by omega)
 have b13:(o==13)=false:=beq_eq_false_iff_ne.2 (by omega)
 have b14:(o==14)=false:=beq_eq_false_iff_ne.2 (by omega)
 have b15:(o==15)=false:=beq_eq_false_iff_ne.2 (by omega)
 have b16:(o==16)=false:=beq_eq_false_iff_ne.2 (by omega)
 have b17:(o==17)=false:=beq_eq_false_iff_ne.2 (by omega)
 have b18:(o==18)=false:=beq_eq_false_iff_ne.2 (by omega)
 have b19:(o==19)=false:=beq_eq_false_iff_ne.2 (by omega)
 have b20:(o==20)=false:=beq_eq_false_iff_ne.2 (by omega)
 have b21:(o==21)=false:=beq_eq_false_iff_ne.2 (by omega)
 have b22:(o==22)=false:=beq_eq_false_iff_ne.2 (by omega)
 have b23:(o==23)=false:=beq_eq_false_iff_ne.2 (by omega)
 have b24:(o==24)=false:=beq_eq_false_iff_ne.2 (by omega)
 have b25:(o==25)=false:=beq_eq_false_iff_ne.2 (by omega)
 have b26:(o==26)=false:=beq_eq_false_iff_ne.2 (by omega)
 have b27:(o==27)=false:=beq_eq_false_iff_ne.2 (by omega)
 have b28:(o==28)=false:=beq_eq_false_iff_ne.2 (by omega)
 have b29:(o==29)=false:=beq_eq_false_iff_ne.2 (by omega)
 have b30:(o==30)=false:=beq_eq_false_iff_ne.2 (by omega)
 have b31:(o==31)=false:=beq_eq_false_iff_ne.2 (by omega)
 have b32:(o==32)=false:=beq_eq_false_iff_ne.2 (by omega)
 have b33:(o==33)=false:=beq_eq_false_iff_ne.2 (by omega)
 have b34:(o==34)=false:=beq_eq_false_iff_ne.2 (by omega)
 have b35:(o==35)=false:=beq_eq_false_iff_ne.2 (by omega)
 have b36:(o==36)=false:=beq_eq_false_iff_ne.2 (by omega)
 have b37:(o==37)=false:=beq_eq_false_iff_ne.2 (by omega)
 have b38:(o==38)=false:=beq_eq_false_iff_ne.2 (by omega)
 have b39:(o==39)=false:=beq_eq_false_iff_ne.2 (by omega)
 have b40:(o==40)=false:=beq_eq_false_iff_ne.2 (by omega)
 have b41:(o==41)=false:=beq_eq_false_iff_ne.2 (by omega)
 have b42:(o==42)=false:=beq_eq_false_iff_ne.2 (by omega)
 have b43:(o==43)=false:=beq_eq_false_iff_ne.2 (by omega)
 have b44:(o==44)=false:=beq_eq_false_iff_ne.2 (by omega)
 have b45:(o==45)=false:=beq_eq_false_iff_ne.2 (by omega)
 have b46:(o==46)=false:=beq_eq_false_iff_ne.2 (by omega)
 have b47:(o==47)=false:=beq_eq_false_iff_ne.2 (by omega)
 have b48:(o==48)=false:=beq_eq_false_iff_ne.2 (by omega)
 have b49:(o==49)=false:=beq_eq_false_iff_ne.2 (by omega)
 have b50:(o==50)=false:=beq_eq_false_iff_ne.2 (by omega)
 have b51:(o==51)=false:=beq_eq_false_iff_ne.2 (by omega)
 have b52:(o==52)=false:=beq_eq_false_iff_ne.2 (by omega)
 have b53:(o==53)=false:=beq_eq_false_iff_ne.2 (by omega)
 have b54:(o==54)=false:=beq_eq_false_iff_ne.2 (by omega)
 have b55:(o==55)=false:=beq_eq_false_iff_ne.2 (by omega)
 have b56:(o==56)=false:=beq_eq_false_iff_ne.2 (by omega)
 have b57:(o==57)=false:=beq_eq_false_iff_ne.2 (by omega)
 have b58:(o==58)=false:=beq_eq_false_iff_ne.2 (by omega)
 clear ho
 go_enter Tryz.func264,Tryz.ntmps264
 go_wp2
 refine bodyPost_ret (v:= .agg #[.bool false, .bool false, .bool false, .bool false, .bool false, .bool false, .bool false, .bool false]) (by simp[results,Tryz.results264,go_sem]) rfl ⟨rfl,?_⟩
 repeat (first|exact Below.refl _ _|refine Below.setCell ?_ (by simp) _|refine Below.alloc ?_ (by simp) _)
end Go.Proofs.YtaangaogmnlljaaGreatDoor.Kn
