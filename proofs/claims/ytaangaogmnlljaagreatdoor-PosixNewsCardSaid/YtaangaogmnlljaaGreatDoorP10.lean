/- Part 10 of what the proof stands on: AsmOps. -/
import Derived.Test.YtaangaogmnlljaaGreatDoorP03
set_option linter.unusedVariables false
namespace Go.Proofs.YtaangaogmnlljaaGreatDoor.Asm
open Go.RowKit
theorem results_tmp4 {fn:Func} {t u v x:Tmp} (h:fn.results=#[.tmp t, .tmp u, .tmp v, .tmp x]) (tmps:Array Value) (P:Program) (w:World):
  (results fn tmps).run P w= .ok (.tuple #[tmps.getD t undef,tmps.getD u undef,tmps.getD v undef,tmps.getD x undef]) w:=by simp[results,h]
abbrev FieldsS (n:Int) (a b c v:Bool):Prop:= ∀w,Calls Tryz.prog 276 #[.int .i64 n] w fun e w'=>e= .returned (.tuple #[.bool a, .bool b, .bool c, .bool v])∧w=w'
theorem fieldsx {n:Int} {a b c v:Bool} (h:FieldsS n a b c v:=by
  intro w
  go_enter Tryz.func276,Tryz.ntmps276
  go_wp2
  refine bodyPost_ret (results_tmp4 rfl _ _ _) rfl ?_
  exact ⟨rfl,rfl⟩):FieldsS n a b c v:=h
def OpsOut (w:World) (k0 k1 k2:Int) (e:Ending) (w':World):Prop:=e= .returned (.agg #[.int .i64 k0, .int .i64 k1, .int .i64 k2])∧Below w.heap.size w w'
abbrev OpsS (n k0 k1 k2:Int):Prop:= ∀w,Calls Tryz.prog 218 #[.int .i64 n] w (OpsOut w k0 k1 k2)
def aggV (k0 k1 k2:Int):Value:= .agg #[.int .i64 k0, .int .i64 k1, .int .i64 k2]
theorem opsx {n k0 k1 k2:Int} {a b c v:Bool} (hf:FieldsS n a b c v) (h:Hid (FieldsS n a b c v)→OpsS n k0 k1 k2:=by
  intro HF w
  go_enter Tryz.func218,Tryz.ntmps218
  go_wp2_with (go_at_call 276;refine (HF.out _).mono ?_;rintro e w' ⟨rfl,rfl⟩)
  refine bodyPost_ret (v:=aggV _ _ _) ?_ ?_ ⟨rfl,?_⟩
  ·simp[results,Tryz.results218,go_sem,aggV]
  ·rfl
  repeat (first|exact Below.refl _ _|refine Below.setCell ?_ (by simp) _|refine Below.alloc ?_ (by simp) _)):OpsS n k0 k1 k2:=h (Lib.hid hf)
theorem fields_1:FieldsS 1 true false false true:=fieldsx
theorem operands_1:OpsS 1 1 9 0:=opsx fields_1
theorem fields_2:FieldsS 2 true true false false:=fieldsx
theorem operands_2:OpsS 2 1 2 0:=opsx fields_2
theorem fields_3:FieldsS 3 true true true true:=fieldsx
theorem operands_3:OpsS 3 1 2 4:=opsx fields_3
theorem fields_4:FieldsS 4 true true true true:=fieldsx
theorem operands_4:OpsS 4 1 2 4:=opsx fields_4
theorem fields_5:FieldsS 5 true true true true:=fieldsx
theorem operands_5:OpsS 5 1 2 4:=opsx fields_5
theorem fields_6:FieldsS 6 true true true true:=fieldsx
theorem operands_6:OpsS 6 1 2 4:=opsx fields_6
theorem fields_7:FieldsS 7 true true true true:=fieldsx
theorem operands_7:OpsS 7 1 2 4:=opsx fields_7
theorem fields_8:FieldsS 8 true true true true:=fieldsx
theorem operands_8:OpsS 8 1 2 4:=opsx fields_8
theorem fields_9:FieldsS 9 true true true true:=fieldsx
theorem operands_9:OpsS 9 1 2 4:=opsx fields_9
theorem fields_10:FieldsS 10 true true true true:=fieldsx
theorem operands_10:OpsS 10 1 2 4:=opsx fields_10
theorem fields_11:FieldsS 11 true true true true:=fieldsx
theorem operands_11:OpsS 11 1 2 4:=opsx fields_11
theorem fields_12:FieldsS 12 false false false true:=fieldsx
theorem operands_12:OpsS 12 8 0 0:=opsx fields_12
theorem fields_13:FieldsS 13 true false false true:=fieldsx
theorem operands_13:OpsS 13 1 8 0:=opsx fields_13
theorem fields_14:FieldsS 14 true false false true:=fieldsx
theorem operands_14:OpsS 14 1 8 0:=opsx fields_14
theorem fields_15:FieldsS 15 false false false true:=fieldsx
theorem operands_15:OpsS 15 8 0 0:=opsx fields_15
theorem fields_16:FieldsS 16 false false false false:=fieldsx
theorem operands_16:OpsS 16 0 0 0:=opsx fields_16
theorem fields_17:FieldsS 17 true true false true:=fieldsx
theorem operands_17:OpsS 17 1 6 0:=opsx fields_17
theorem fields_18:FieldsS 18 true true false true:=fieldsx
theorem operands_18:OpsS 18 1 6 0:=opsx fields_18
theorem fields_19:FieldsS 19 true true false true:=fieldsx
theorem operands_19:OpsS 19 1 6 0:=opsx fields_19
theorem fields_20:FieldsS 20 true true false true:=fieldsx
theorem operands_20:OpsS 20 1 6 0:=opsx fields_20
theorem fields_21:FieldsS 21 true true true true:=fieldsx
theorem operands_21:OpsS 21 1 6 3:=opsx fields_21
theorem fields_22:FieldsS 22 false false false true:=fieldsx
theorem operands_22:OpsS 22 7 0 0:=opsx fields_22
theorem fields_23:FieldsS 23 true true false false:=fieldsx
theorem operands_23:OpsS 23 1 2 0:=opsx fields_23
theorem fields_24:FieldsS 24 true true true false:=fieldsx
theorem operands_24:OpsS 24 1 2 3:=opsx fields_24
theorem fields_25:FieldsS 25 true true true false:=fieldsx
theorem operands_25:OpsS 25 1 2 3:=opsx fields_25
theorem fields_26:FieldsS 26 true true true false:=fieldsx
theorem operands_26:OpsS 26 1 2 3:=opsx fields_26
theorem fields_27:FieldsS 27 true true true false:=fieldsx
theorem operands_27:OpsS 27 1 2 3:=opsx fields_27
theorem fields_28:FieldsS 28 true false false false:=fieldsx
theorem operands_28:OpsS 28 1 0 0:=opsx fields_28
theorem fields_29:FieldsS 29 true false false false:=fieldsx
theorem operands_29:OpsS 29 1 0 0:=opsx fields_29
theorem fields_30:FieldsS 30 true false false false:=fieldsx
theorem operands_30:OpsS 30 1 0 0:=opsx fields_30
theorem fields_31:FieldsS 31 true true false true:=fieldsx
theorem operands_31:OpsS 31 1 6 0:=opsx fields_31
theorem fields_32:FieldsS 32 true true true true:=fieldsx
theorem operands_32:OpsS 32 1 6 3:=opsx fields_32
theorem fields_33:FieldsS 33 false false false false:=fieldsx
theorem operands_33:OpsS 33 0 0 0:=opsx fields_33
theorem fields_34:FieldsS 34 true false false false:=fieldsx
theorem operands_34:OpsS 34 1 0 0:=opsx fields_34
theorem fields_35:FieldsS 35 true false false false:=fieldsx
theorem operands_35:OpsS 35 1 0 0:=opsx fields_35
theorem fields_36:FieldsS 36 true false false false:=fieldsx
theorem operands_36:OpsS 36 1 0 0:=opsx fields_36
theorem fields_37:FieldsS 37 true false false false:=fieldsx
theorem operands_37:OpsS 37 1 0 0:=opsx fields_37
theorem fields_38:FieldsS 38 true false false false:=fieldsx
theorem operands_38:OpsS 38 1 0 0:=opsx fields_38
theorem fields_39:FieldsS 39 true true false false:=fieldsx
theorem operands_39:OpsS 39 1 2 0:=opsx fields_39
theorem fields_40:FieldsS 40 true false false false:=fieldsx
theorem operands_40:OpsS 40 1 0 0:=opsx fields_40
theorem fields_41:FieldsS 41 true false false false:=fieldsx
theorem operands_41:OpsS 41 1 0 0:=opsx fields_41
theorem fields_42:FieldsS 42 true false false false:=fieldsx
theorem operands_42:OpsS 42 1 0 0:=opsx fields_42
theorem fields_43:FieldsS 43 true true false true:=fieldsx
theorem operands_43:OpsS 43 1 5 0:=opsx fields_43
theorem fields_44:FieldsS 44 true false false false:=fieldsx
theorem operands_44:OpsS 44 1 0 0:=opsx fields_44
theorem fields_45:FieldsS 45 true true false true:=fieldsx
theorem operands_45:OpsS 45 1 2 7:=opsx fields_45
theorem fields_46:FieldsS 46 true false false false:=fieldsx
theorem operands_46:OpsS 46 1 0 0:=opsx fields_46
theorem fields_47:FieldsS 47 true true false false:=fieldsx
theorem operands_47:OpsS 47 1 2 0:=opsx fields_47
theorem fields_48:FieldsS 48 true true true false:=fieldsx
theorem operands_48:OpsS 48 1 2 3:=opsx fields_48
theorem fields_49:FieldsS 49 true true false false:=fieldsx
theorem operands_49:OpsS 49 1 2 0:=opsx fields_49
theorem fields_50:FieldsS 50 true true false false:=fieldsx
theorem operands_50:OpsS 50 1 2 0:=opsx fields_50
theorem fields_51:FieldsS 51 true false false false:=fieldsx
theorem operands_51:OpsS 51 1 0 0:=opsx fields_51
theorem fields_52:FieldsS 52 true false false false:=fieldsx
theorem operands_52:OpsS 52 1 0 0:=opsx fields_52
theorem fields_53:FieldsS 53 true false false false:=fieldsx
theorem operands_53:OpsS 53 1 0 0:=opsx fields_53
theorem fields_54:FieldsS 54 true true false false:=fieldsx
theorem operands_54:OpsS 54 1 2 0:=opsx fields_54
theorem fields_55:FieldsS 55 false false false false:=fieldsx
theorem operands_55:OpsS 55 0 0 0:=opsx fields_55
theorem fields_56:FieldsS 56 false false false false:=fieldsx
theorem operands_56:OpsS 56 0 0 0:=opsx fields_56
theorem fields_57:FieldsS 57 true false false false:=fieldsx
theorem operands_57:OpsS 57 1 0 0:=opsx fields_57
theorem fields_58:FieldsS 58 false false false false:=fieldsx
theorem operands_58:OpsS 58 0 0 0:=opsx fields_58
theorem operands_any (op:Int) (h1:1≤op) (h2:op≤58) (w:World): ∃k0 k1 k2,Calls Tryz.prog 218 #[.int .i64 op] w (OpsOut w k0 k1 k2)∧ [k0,k1,k2].takeWhile (fun k=>decide (k≠0))=kindsL op:=by
 obtain rfl|rfl|rfl|rfl|rfl|rfl|rfl|rfl|rfl|rfl|rfl|rfl|rfl|rfl|rfl|rfl|rfl|rfl|rfl|rfl|rfl|rfl|rfl|rfl|rfl|rfl|rfl|rfl|rfl|rfl|rfl|rfl|rfl|rfl|rfl|rfl|rfl|rfl|rfl|rfl|rfl|rfl|rfl|rfl|rfl|rfl|rfl|rfl|rfl|rfl|rfl|rfl|rfl|rfl|rfl|rfl|rfl|rfl:op=1∨op=2∨op=3∨op=4∨op=5∨op=6∨op=7∨op=8∨op=9∨op=10∨op=11∨op=12∨op=13∨op=14∨op=15∨op=16∨op=17∨op=18∨op=19∨op=20∨op=21∨op=22∨op=23∨op=24∨op=25∨op=26∨op=27∨op=28∨op=29∨op=30∨op=31∨op=32∨op=33∨op=34∨op=35∨op=36∨op=37∨op=38∨op=39∨op=40∨op=41∨op=42∨op=43∨op=44∨op=45∨op=46∨op=47∨op=48∨op=49∨op=50∨op=51∨op=52∨op=53∨op=54∨op=55∨op=56∨op=57∨op=58:=by omega
 ·exact ⟨_,_,_,operands_1 w,by decide⟩
 ·exact ⟨_,_,_,operands_2 w,by decide⟩
 ·exact ⟨_,_,_,operands_3 w,by decide⟩
 ·exact ⟨_,_,_,operands_4 w,by decide⟩
 ·exact ⟨_,_,_,operands_5 w,by decide⟩
 ·exact ⟨_,_,_,operands_6 w,by decide⟩
 ·exact ⟨_,_,_,operands_7 w,by decide⟩
 ·exact ⟨_,_,_,operands_8 w,by decide⟩
 ·exact ⟨_,_,_,operands_9 w,by decide⟩
 ·exact ⟨_,_,_,operands_10 w,by decide⟩
 ·exact ⟨_,_,_,operands_11 w,by decide⟩
 ·exact ⟨_,_,_,operands_12 w,by decide⟩
 ·exact ⟨_,_,_,operands_13 w,by decide⟩
 ·exact ⟨_,_,_,operands_14 w,by decide⟩
 ·exact ⟨_,_,_,operands_15 w,by decide⟩
 ·exact ⟨_,_,_,operands_16 w,by decide⟩
 ·exact ⟨_,_,_,operands_17 w,by decide⟩
 ·exact ⟨_,_,_,operands_18 w,by decide⟩
 ·exact ⟨_,_,_,operands_19 w,by decide⟩
 ·exact ⟨_,_,_,operands_20 w,by decide⟩
 ·exact ⟨_,_,_,operands_21 w,by decide⟩
 ·exact ⟨_,_,_,operands_22 w,by decide⟩
 ·exact ⟨_,_,_,operands_23 w,by decide⟩
 ·exact ⟨_,_,_,operands_24 w,by decide⟩
 ·exact ⟨_,_,_,operands_25 w,by decide⟩
 ·exact ⟨_,_,_,operands_26 w,by decide⟩
 ·exact ⟨_,_,_,operands_27 w,by decide⟩
 ·exact ⟨_,_,_,operands_28 w,by decide⟩
 ·exact ⟨_,_,_,operands_29 w,by decide⟩
 ·exact ⟨_,_,_,operands_30 w,by decide⟩
 ·exact ⟨_,_,_,operands_31 w,by decide⟩
 ·exact ⟨_,_,_,operands_32 w,by decide⟩
 ·exact ⟨_,_,_,operands_33 w,by decide⟩
 ·exact ⟨_,_,_,operands_34 w,by decide⟩
 ·exact ⟨_,_,_,operands_35 w,by decide⟩
 ·exact ⟨_,_,_,operands_36 w,by decide⟩
 ·exact ⟨_,_,_,operands_37 w,by decide⟩
 ·exact ⟨_,_,_,operands_38 w,by decide⟩
 ·exact ⟨_,_,_,operands_39 w,by decide⟩
 ·exact ⟨_,_,_,operands_40 w,by decide⟩
 ·exact ⟨_,_,_,operands_41 w,by decide⟩
 ·exact ⟨_,_,_,operands_42 w,by decide⟩
 ·exact ⟨_,_,_,operands_43 w,by decide⟩
 ·exact ⟨_,_,_,operands_44 w,by decide⟩
 ·exact ⟨_,_,_,operands_45 w,by decide⟩
 ·exact ⟨_,_,_,operands_46 w,by decide⟩
 ·exact ⟨_,_,_,operands_47 w,by decide⟩
 ·exact ⟨_,_,_,operands_48 w,by decide⟩
 ·exact ⟨_,_,_,operands_49 w,by decide⟩
 ·exact ⟨_,_,_,operands_50 w,by decide⟩
 ·exact ⟨_,_,_,operands_51 w,by decide⟩
 ·exact ⟨_,_,_,operands_52 w,by decide⟩
 ·exact ⟨_,_,_,operands_53 w,by decide⟩
 ·exact ⟨_,_,_,operands_54 w,by decide⟩
 ·exact ⟨_,_,_,operands_55 w,by decide⟩
 ·exact ⟨_,_,_,operands_56 w,by decide⟩
 ·exact ⟨_,_,_,operands_57 w,by decide⟩
 ·exact ⟨_,_,_,operands_58 w,by decide⟩
end Go.Proofs.YtaangaogmnlljaaGreatDoor.Asm
