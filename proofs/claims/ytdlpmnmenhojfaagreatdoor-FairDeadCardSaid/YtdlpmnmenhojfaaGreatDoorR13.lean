/- Part 13 of what the proof stands on: AsmOps. -/
import Derived.Test.YtdlpmnmenhojfaaGreatDoorR04
set_option linter.unusedVariables false
set_option maxRecDepth 100000
variable {zP:Prop}
namespace Go.Proofs.YtdlpmnmenhojfaaGreatDoor
open Go.IntKind renaming i64->Z,u64->J
open Go.Value renaming int->E,pointer->Y,slice->Sl
open Option renaming none->O,some->V
open Go.Obj renaming cells->Ce
open Go.Ending renaming returned->Rt
open Go.Proofs.Tryz renaming prog->Tp
namespace Asm
open Go.RowKit
theorem zeA {fn:Func} {t u v x:Tmp} (h:fn.results=#[.tmp t, .tmp u, .tmp v, .tmp x]) (tmps:Array Value) (P:Program) (w:World):
  (results fn tmps).run P w= .ok (.tuple #[tmps.getD t undef,tmps.getD u undef,tmps.getD v undef,tmps.getD x undef]) w:=by simp[results,h]
abbrev zM (n:Int) (a b c v:Bool):Prop:= ∀w,Calls Tp 206 #[E Z n] w fun e w'=>e=Rt (.tuple #[.bool a, .bool b, .bool c, .bool v])∧w=w'
theorem zQ {n:Int} {a b c v:Bool} (h:zM n a b c v:=by
  intro w
  go_enter Tryz.func206,Tryz.ntmps206
  go_wp2
  refine bodyPost_ret (zeA rfl _ _ _) rfl ?_
  exact ⟨rfl,rfl⟩):zM n a b c v:=h
def znY (w:World) (k0 k1 k2:Int) (e:Ending) (w':World):Prop:=e=Rt (.agg #[E Z k0,E Z k1,E Z k2])∧Below w.heap.size w w'
abbrev ZK (n k0 k1 k2:Int):Prop:= ∀w,Calls Tp 140 #[E Z n] w (znY w k0 k1 k2)
def zye (k0 k1 k2:Int):Value:= .agg #[E Z k0,E Z k1,E Z k2]
theorem ZL {n k0 k1 k2:Int} {a b c v:Bool} (hf:zM n a b c v) (h:Hid (zM n a b c v)→ZK n k0 k1 k2:=by
  intro HF w
  go_enter Tryz.func140,Tryz.ntmps140
  go_wp2_with (go_at_call 206;refine (HF.out _).mono ?_;rintro e w' ⟨rfl,rfl⟩)
  refine bodyPost_ret (v:=zye _ _ _) ?_ ?_ ⟨rfl,?_⟩
  ·simp[results,Tryz.results140,go_sem,zye]
  ·rfl
  repeat (first|exact Below.refl _ _|refine Below.setCell ?_ Y7 _|refine Below.alloc ?_ Y7 _)):ZK n k0 k1 k2:=h (Y0 hf)
theorem zgA:zM 1 true false false true:=zQ
theorem zh0:ZK 1 1 9 0:=ZL zgA
theorem zhb:zM 2 true true false false:=zQ
theorem zic:ZK 2 1 2 0:=ZL zhb
theorem zfm:zM 3 true true true true:=zQ
theorem zis:ZK 3 1 2 4:=ZL zfm
theorem zfV:zM 4 true true true true:=zQ
theorem ziX:ZK 4 1 2 4:=ZL zfV
theorem zfW:zM 5 true true true true:=zQ
theorem zih:ZK 5 1 2 4:=ZL zfW
theorem zfa:zM 6 true true true true:=zQ
theorem zil:ZK 6 1 2 4:=ZL zfa
theorem zfi:zM 7 true true true true:=zQ
theorem zhZ:ZK 7 1 2 4:=ZL zfi
theorem zg1:zM 8 true true true true:=zQ
theorem zhP:ZK 8 1 2 4:=ZL zg1
theorem zfC:zM 9 true true true true:=zQ
theorem zid:ZK 9 1 2 4:=ZL zfC
theorem zct:zM 10 true true true true:=zQ
theorem zhi:ZK 10 1 2 4:=ZL zct
theorem zdq:zM 11 true true true true:=zQ
theorem ze9:ZK 11 1 2 4:=ZL zdq
theorem zc5:zM 12 false false false true:=zQ
theorem zhj:ZK 12 8 0 0:=ZL zc5
theorem zcl:zM 13 true false false true:=zQ
theorem ze3:ZK 13 1 8 0:=ZL zcl
theorem zcx:zM 14 true false false true:=zQ
theorem ze7:ZK 14 1 8 0:=ZL zcx
theorem zcW:zM 15 false false false true:=zQ
theorem zgs:ZK 15 8 0 0:=ZL zcW
theorem zcU:zM 16 false false false false:=zQ
theorem zhp:ZK 16 0 0 0:=ZL zcU
theorem zc9:zM 17 true true false true:=zQ
theorem zfx:ZK 17 1 6 0:=ZL zc9
theorem zcL:zM 18 true true false true:=zQ
theorem zga:ZK 18 1 6 0:=ZL zcL
theorem zdF:zM 19 true true false true:=zQ
theorem zgw:ZK 19 1 6 0:=ZL zdF
theorem zdo:zM 20 true true false true:=zQ
theorem zeX:ZK 20 1 6 0:=ZL zdo
theorem zco:zM 21 true true true true:=zQ
theorem ze2:ZK 21 1 6 3:=ZL zco
theorem zcJ:zM 22 false false false true:=zQ
theorem zgR:ZK 22 7 0 0:=ZL zcJ
theorem zcq:zM 23 true true false false:=zQ
theorem zfN:ZK 23 1 2 0:=ZL zcq
theorem zcP:zM 24 true true true false:=zQ
theorem zgK:ZK 24 1 2 3:=ZL zcP
theorem zcO:zM 25 true true true false:=zQ
theorem zgP:ZK 25 1 2 3:=ZL zcO
theorem zdA:zM 26 true true true false:=zQ
theorem zho:ZK 26 1 2 3:=ZL zdA
theorem zcX:zM 27 true true true false:=zQ
theorem zfK:ZK 27 1 2 3:=ZL zcX
theorem zcv:zM 28 true false false false:=zQ
theorem zfU:ZK 28 1 0 0:=ZL zcv
theorem zdI:zM 29 true false false false:=zQ
theorem zgX:ZK 29 1 0 0:=ZL zdI
theorem zcE:zM 30 true false false false:=zQ
theorem zhr:ZK 30 1 0 0:=ZL zcE
theorem zc8:zM 31 true true false true:=zQ
theorem zf7:ZK 31 1 6 0:=ZL zc8
theorem zdM:zM 32 true true true true:=zQ
theorem zgc:ZK 32 1 6 3:=ZL zdM
theorem zcC:zM 33 false false false false:=zQ
theorem zeP:ZK 33 0 0 0:=ZL zcC
theorem zc1:zM 34 true false false false:=zQ
theorem zfM:ZK 34 1 0 0:=ZL zc1
theorem zcw:zM 35 true false false false:=zQ
theorem zeZ:ZK 35 1 0 0:=ZL zcw
theorem zdJ:zM 36 true false false false:=zQ
theorem zgj:ZK 36 1 0 0:=ZL zdJ
theorem zcH:zM 37 true false false false:=zQ
theorem zeR:ZK 37 1 0 0:=ZL zcH
theorem zcD:zM 38 true false false false:=zQ
theorem zgm:ZK 38 1 0 0:=ZL zcD
theorem zdu:zM 39 true true false false:=zQ
theorem zgO:ZK 39 1 2 0:=ZL zdu
theorem zc7:zM 40 true false false false:=zQ
theorem zg5:ZK 40 1 0 0:=ZL zc7
theorem zcA:zM 41 true false false false:=zQ
theorem zfQ:ZK 41 1 0 0:=ZL zcA
theorem zdw:zM 42 true false false false:=zQ
theorem zgJ:ZK 42 1 0 0:=ZL zdw
theorem zdC:zM 43 true true false true:=zQ
theorem zfI:ZK 43 1 5 0:=ZL zdC
theorem zcK:zM 44 true false false false:=zQ
theorem zf1:ZK 44 1 0 0:=ZL zcK
theorem zdz:zM 45 true true false true:=zQ
theorem zge:ZK 45 1 2 7:=ZL zdz
theorem zdN:zM 46 true false false false:=zQ
theorem ze0:ZK 46 1 0 0:=ZL zdN
theorem zc2:zM 47 true true false false:=zQ
theorem zgD:ZK 47 1 2 0:=ZL zc2
theorem zdk:zM 48 true true true false:=zQ
theorem zgI:ZK 48 1 2 3:=ZL zdk
theorem zdD:zM 49 true true false false:=zQ
theorem zg7:ZK 49 1 2 0:=ZL zdD
theorem zdK:zM 50 true true false false:=zQ
theorem zfk:ZK 50 1 2 0:=ZL zdK
theorem zcV:zM 51 true false false false:=zQ
theorem zgu:ZK 51 1 0 0:=ZL zcV
theorem zdf:zM 52 true false false false:=zQ
theorem zgz:ZK 52 1 0 0:=ZL zdf
theorem zdl:zM 53 true false false false:=zQ
theorem zhn:ZK 53 1 0 0:=ZL zdl
theorem zdg:zM 54 true true false false:=zQ
theorem zgE:ZK 54 1 2 0:=ZL zdg
theorem zdj:zM 55 false false false false:=zQ
theorem zeV:ZK 55 0 0 0:=ZL zdj
theorem zdp:zM 56 false false false false:=zQ
theorem zfX:ZK 56 0 0 0:=ZL zdp
theorem zdH:zM 57 true false false false:=zQ
theorem zfp:ZK 57 1 0 0:=ZL zdH
theorem zdc:zM 58 false false false false:=zQ
theorem zfb:ZK 58 0 0 0:=ZL zdc
theorem zdX (op:Int) (h1:1≤op) (h2:op≤58) (w:World): ∃k0 k1 k2,Calls Tp 140 #[E Z op] w (znY w k0 k1 k2)∧ [k0,k1,k2].takeWhile (fun k=>decide (k≠0))=Zk op:=by
 obtain rfl|rfl|rfl|rfl|rfl|rfl|rfl|rfl|rfl|rfl|rfl|rfl|rfl|rfl|rfl|rfl|rfl|rfl|rfl|rfl|rfl|rfl|rfl|rfl|rfl|rfl|rfl|rfl|rfl|rfl|rfl|rfl|rfl|rfl|rfl|rfl|rfl|rfl|rfl|rfl|rfl|rfl|rfl|rfl|rfl|rfl|rfl|rfl|rfl|rfl|rfl|rfl|rfl|rfl|rfl|rfl|rfl|rfl:op=1∨op=2∨op=3∨op=4∨op=5∨op=6∨op=7∨op=8∨op=9∨op=10∨op=11∨op=12∨op=13∨op=14∨op=15∨op=16∨op=17∨op=18∨op=19∨op=20∨op=21∨op=22∨op=23∨op=24∨op=25∨op=26∨op=27∨op=28∨op=29∨op=30∨op=31∨op=32∨op=33∨op=34∨op=35∨op=36∨op=37∨op=38∨op=39∨op=40∨op=41∨op=42∨op=43∨op=44∨op=45∨op=46∨op=47∨op=48∨op=49∨op=50∨op=51∨op=52∨op=53∨op=54∨op=55∨op=56∨op=57∨op=58:=Y1
 ·exact ⟨_,_,_,zh0 w,by decide⟩
 ·exact ⟨_,_,_,zic w,by decide⟩
 ·exact ⟨_,_,_,zis w,by decide⟩
 ·exact ⟨_,_,_,ziX w,by decide⟩
 ·exact ⟨_,_,_,zih w,by decide⟩
 ·exact ⟨_,_,_,zil w,by decide⟩
 ·exact ⟨_,_,_,zhZ w,by decide⟩
 ·exact ⟨_,_,_,zhP w,by decide⟩
 ·exact ⟨_,_,_,zid w,by decide⟩
 ·exact ⟨_,_,_,zhi w,by decide⟩
 ·exact ⟨_,_,_,ze9 w,by decide⟩
 ·exact ⟨_,_,_,zhj w,by decide⟩
 ·exact ⟨_,_,_,ze3 w,by decide⟩
 ·exact ⟨_,_,_,ze7 w,by decide⟩
 ·exact ⟨_,_,_,zgs w,by decide⟩
 ·exact ⟨_,_,_,zhp w,by decide⟩
 ·exact ⟨_,_,_,zfx w,by decide⟩
 ·exact ⟨_,_,_,zga w,by decide⟩
 ·exact ⟨_,_,_,zgw w,by decide⟩
 ·exact ⟨_,_,_,zeX w,by decide⟩
 ·exact ⟨_,_,_,ze2 w,by decide⟩
 ·exact ⟨_,_,_,zgR w,by decide⟩
 ·exact ⟨_,_,_,zfN w,by decide⟩
 ·exact ⟨_,_,_,zgK w,by decide⟩
 ·exact ⟨_,_,_,zgP w,by decide⟩
 ·exact ⟨_,_,_,zho w,by decide⟩
 ·exact ⟨_,_,_,zfK w,by decide⟩
 ·exact ⟨_,_,_,zfU w,by decide⟩
 ·exact ⟨_,_,_,zgX w,by decide⟩
 ·exact ⟨_,_,_,zhr w,by decide⟩
 ·exact ⟨_,_,_,zf7 w,by decide⟩
 ·exact ⟨_,_,_,zgc w,by decide⟩
 ·exact ⟨_,_,_,zeP w,by decide⟩
 ·exact ⟨_,_,_,zfM w,by decide⟩
 ·exact ⟨_,_,_,zeZ w,by decide⟩
 ·exact ⟨_,_,_,zgj w,by decide⟩
 ·exact ⟨_,_,_,zeR w,by decide⟩
 ·exact ⟨_,_,_,zgm w,by decide⟩
 ·exact ⟨_,_,_,zgO w,by decide⟩
 ·exact ⟨_,_,_,zg5 w,by decide⟩
 ·exact ⟨_,_,_,zfQ w,by decide⟩
 ·exact ⟨_,_,_,zgJ w,by decide⟩
 ·exact ⟨_,_,_,zfI w,by decide⟩
 ·exact ⟨_,_,_,zf1 w,by decide⟩
 ·exact ⟨_,_,_,zge w,by decide⟩
 ·exact ⟨_,_,_,ze0 w,by decide⟩
 ·exact ⟨_,_,_,zgD w,by decide⟩
 ·exact ⟨_,_,_,zgI w,by decide⟩
 ·exact ⟨_,_,_,zg7 w,by decide⟩
 ·exact ⟨_,_,_,zfk w,by decide⟩
 ·exact ⟨_,_,_,zgu w,by decide⟩
 ·exact ⟨_,_,_,zgz w,by decide⟩
 ·exact ⟨_,_,_,zhn w,by decide⟩
 ·exact ⟨_,_,_,zgE w,by decide⟩
 ·exact ⟨_,_,_,zeV w,by decide⟩
 ·exact ⟨_,_,_,zfX w,by decide⟩
 ·exact ⟨_,_,_,zfp w,by decide⟩
 ·exact ⟨_,_,_,zfb w,by decide⟩
end Asm
end Go.Proofs.YtdlpmnmenhojfaaGreatDoor
