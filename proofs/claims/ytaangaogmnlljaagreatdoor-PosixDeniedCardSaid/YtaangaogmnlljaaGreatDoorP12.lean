/- Part 12 of what the proof stands on: AsmOps. -/
import Derived.Test.YtaangaogmnlljaaGreatDoorP04
set_option linter.unusedVariables false
namespace Go.Proofs.YtaangaogmnlljaaGreatDoor.Asm
open Go.RowKit
theorem results_tmp4 {fn:Func} {t u v x:Tmp} (h:fn.results=#[.tmp t, .tmp u, .tmp v, .tmp x]) (tmps:Array Value) (P:Program) (w:World):
  (results fn tmps).run P w= .ok (.tuple #[tmps.getD t undef,tmps.getD u undef,tmps.getD v undef,tmps.getD x undef]) w:=by simp[results,h]
theorem fields_1 (w:World):Calls Tryz.prog 276 #[.int .i64 1] w fun e w'=>e= .returned (.tuple #[.bool true, .bool false, .bool false, .bool true])∧w=w':=by
 go_enter Tryz.func276,Tryz.ntmps276
 go_wp2
 refine bodyPost_ret (results_tmp4 rfl _ _ _) rfl ?_
 exact ⟨rfl,rfl⟩
theorem fields_2 (w:World):Calls Tryz.prog 276 #[.int .i64 2] w fun e w'=>e= .returned (.tuple #[.bool true, .bool true, .bool false, .bool false])∧w=w':=by
 go_enter Tryz.func276,Tryz.ntmps276
 go_wp2
 refine bodyPost_ret (results_tmp4 rfl _ _ _) rfl ?_
 exact ⟨rfl,rfl⟩
theorem fields_3 (w:World):Calls Tryz.prog 276 #[.int .i64 3] w fun e w'=>e= .returned (.tuple #[.bool true, .bool true, .bool true, .bool true])∧w=w':=by
 go_enter Tryz.func276,Tryz.ntmps276
 go_wp2
 refine bodyPost_ret (results_tmp4 rfl _ _ _) rfl ?_
 exact ⟨rfl,rfl⟩
theorem fields_4 (w:World):Calls Tryz.prog 276 #[.int .i64 4] w fun e w'=>e= .returned (.tuple #[.bool true, .bool true, .bool true, .bool true])∧w=w':=by
 go_enter Tryz.func276,Tryz.ntmps276
 go_wp2
 refine bodyPost_ret (results_tmp4 rfl _ _ _) rfl ?_
 exact ⟨rfl,rfl⟩
theorem fields_5 (w:World):Calls Tryz.prog 276 #[.int .i64 5] w fun e w'=>e= .returned (.tuple #[.bool true, .bool true, .bool true, .bool true])∧w=w':=by
 go_enter Tryz.func276,Tryz.ntmps276
 go_wp2
 refine bodyPost_ret (results_tmp4 rfl _ _ _) rfl ?_
 exact ⟨rfl,rfl⟩
theorem fields_6 (w:World):Calls Tryz.prog 276 #[.int .i64 6] w fun e w'=>e= .returned (.tuple #[.bool true, .bool true, .bool true, .bool true])∧w=w':=by
 go_enter Tryz.func276,Tryz.ntmps276
 go_wp2
 refine bodyPost_ret (results_tmp4 rfl _ _ _) rfl ?_
 exact ⟨rfl,rfl⟩
theorem fields_7 (w:World):Calls Tryz.prog 276 #[.int .i64 7] w fun e w'=>e= .returned (.tuple #[.bool true, .bool true, .bool true, .bool true])∧w=w':=by
 go_enter Tryz.func276,Tryz.ntmps276
 go_wp2
 refine bodyPost_ret (results_tmp4 rfl _ _ _) rfl ?_
 exact ⟨rfl,rfl⟩
theorem fields_8 (w:World):Calls Tryz.prog 276 #[.int .i64 8] w fun e w'=>e= .returned (.tuple #[.bool true, .bool true, .bool true, .bool true])∧w=w':=by
 go_enter Tryz.func276,Tryz.ntmps276
 go_wp2
 refine bodyPost_ret (results_tmp4 rfl _ _ _) rfl ?_
 exact ⟨rfl,rfl⟩
theorem fields_9 (w:World):Calls Tryz.prog 276 #[.int .i64 9] w fun e w'=>e= .returned (.tuple #[.bool true, .bool true, .bool true, .bool true])∧w=w':=by
 go_enter Tryz.func276,Tryz.ntmps276
 go_wp2
 refine bodyPost_ret (results_tmp4 rfl _ _ _) rfl ?_
 exact ⟨rfl,rfl⟩
theorem fields_10 (w:World):Calls Tryz.prog 276 #[.int .i64 10] w fun e w'=>e= .returned (.tuple #[.bool true, .bool true, .bool true, .bool true])∧w=w':=by
 go_enter Tryz.func276,Tryz.ntmps276
 go_wp2
 refine bodyPost_ret (results_tmp4 rfl _ _ _) rfl ?_
 exact ⟨rfl,rfl⟩
theorem fields_11 (w:World):Calls Tryz.prog 276 #[.int .i64 11] w fun e w'=>e= .returned (.tuple #[.bool true, .bool true, .bool true, .bool true])∧w=w':=by
 go_enter Tryz.func276,Tryz.ntmps276
 go_wp2
 refine bodyPost_ret (results_tmp4 rfl _ _ _) rfl ?_
 exact ⟨rfl,rfl⟩
theorem fields_12 (w:World):Calls Tryz.prog 276 #[.int .i64 12] w fun e w'=>e= .returned (.tuple #[.bool false, .bool false, .bool false, .bool true])∧w=w':=by
 go_enter Tryz.func276,Tryz.ntmps276
 go_wp2
 refine bodyPost_ret (results_tmp4 rfl _ _ _) rfl ?_
 exact ⟨rfl,rfl⟩
theorem fields_13 (w:World):Calls Tryz.prog 276 #[.int .i64 13] w fun e w'=>e= .returned (.tuple #[.bool true, .bool false, .bool false, .bool true])∧w=w':=by
 go_enter Tryz.func276,Tryz.ntmps276
 go_wp2
 refine bodyPost_ret (results_tmp4 rfl _ _ _) rfl ?_
 exact ⟨rfl,rfl⟩
theorem fields_14 (w:World):Calls Tryz.prog 276 #[.int .i64 14] w fun e w'=>e= .returned (.tuple #[.bool true, .bool false, .bool false, .bool true])∧w=w':=by
 go_enter Tryz.func276,Tryz.ntmps276
 go_wp2
 refine bodyPost_ret (results_tmp4 rfl _ _ _) rfl ?_
 exact ⟨rfl,rfl⟩
theorem fields_15 (w:World):Calls Tryz.prog 276 #[.int .i64 15] w fun e w'=>e= .returned (.tuple #[.bool false, .bool false, .bool false, .bool true])∧w=w':=by
 go_enter Tryz.func276,Tryz.ntmps276
 go_wp2
 refine bodyPost_ret (results_tmp4 rfl _ _ _) rfl ?_
 exact ⟨rfl,rfl⟩
theorem fields_16 (w:World):Calls Tryz.prog 276 #[.int .i64 16] w fun e w'=>e= .returned (.tuple #[.bool false, .bool false, .bool false, .bool false])∧w=w':=by
 go_enter Tryz.func276,Tryz.ntmps276
 go_wp2
 refine bodyPost_ret (results_tmp4 rfl _ _ _) rfl ?_
 exact ⟨rfl,rfl⟩
theorem fields_17 (w:World):Calls Tryz.prog 276 #[.int .i64 17] w fun e w'=>e= .returned (.tuple #[.bool true, .bool true, .bool false, .bool true])∧w=w':=by
 go_enter Tryz.func276,Tryz.ntmps276
 go_wp2
 refine bodyPost_ret (results_tmp4 rfl _ _ _) rfl ?_
 exact ⟨rfl,rfl⟩
theorem fields_18 (w:World):Calls Tryz.prog 276 #[.int .i64 18] w fun e w'=>e= .returned (.tuple #[.bool true, .bool true, .bool false, .bool true])∧w=w':=by
 go_enter Tryz.func276,Tryz.ntmps276
 go_wp2
 refine bodyPost_ret (results_tmp4 rfl _ _ _) rfl ?_
 exact ⟨rfl,rfl⟩
theorem fields_19 (w:World):Calls Tryz.prog 276 #[.int .i64 19] w fun e w'=>e= .returned (.tuple #[.bool true, .bool true, .bool false, .bool true])∧w=w':=by
 go_enter Tryz.func276,Tryz.ntmps276
 go_wp2
 refine bodyPost_ret (results_tmp4 rfl _ _ _) rfl ?_
 exact ⟨rfl,rfl⟩
theorem fields_20 (w:World):Calls Tryz.prog 276 #[.int .i64 20] w fun e w'=>e= .returned (.tuple #[.bool true, .bool true, .bool false, .bool true])∧w=w':=by
 go_enter Tryz.func276,Tryz.ntmps276
 go_wp2
 refine bodyPost_ret (results_tmp4 rfl _ _ _) rfl ?_
 exact ⟨rfl,rfl⟩
theorem fields_21 (w:World):Calls Tryz.prog 276 #[.int .i64 21] w fun e w'=>e= .returned (.tuple #[.bool true, .bool true, .bool true, .bool true])∧w=w':=by
 go_enter Tryz.func276,Tryz.ntmps276
 go_wp2
 refine bodyPost_ret (results_tmp4 rfl _ _ _) rfl ?_
 exact ⟨rfl,rfl⟩
theorem fields_22 (w:World):Calls Tryz.prog 276 #[.int .i64 22] w fun e w'=>e= .returned (.tuple #[.bool false, .bool false, .bool false, .bool true])∧w=w':=by
 go_enter Tryz.func276,Tryz.ntmps276
 go_wp2
 refine bodyPost_ret (results_tmp4 rfl _ _ _) rfl ?_
 exact ⟨rfl,rfl⟩
theorem fields_23 (w:World):Calls Tryz.prog 276 #[.int .i64 23] w fun e w'=>e= .returned (.tuple #[.bool true, .bool true, .bool false, .bool false])∧w=w':=by
 go_enter Tryz.func276,Tryz.ntmps276
 go_wp2
 refine bodyPost_ret (results_tmp4 rfl _ _ _) rfl ?_
 exact ⟨rfl,rfl⟩
theorem fields_24 (w:World):Calls Tryz.prog 276 #[.int .i64 24] w fun e w'=>e= .returned (.tuple #[.bool true, .bool true, .bool true, .bool false])∧w=w':=by
 go_enter Tryz.func276,Tryz.ntmps276
 go_wp2
 refine bodyPost_ret (results_tmp4 rfl _ _ _) rfl ?_
 exact ⟨rfl,rfl⟩
theorem fields_25 (w:World):Calls Tryz.prog 276 #[.int .i64 25] w fun e w'=>e= .returned (.tuple #[.bool true, .bool true, .bool true, .bool false])∧w=w':=by
 go_enter Tryz.func276,Tryz.ntmps276
 go_wp2
 refine bodyPost_ret (results_tmp4 rfl _ _ _) rfl ?_
 exact ⟨rfl,rfl⟩
theorem fields_26 (w:World):Calls Tryz.prog 276 #[.int .i64 26] w fun e w'=>e= .returned (.tuple #[.bool true, .bool true, .bool true, .bool false])∧w=w':=by
 go_enter Tryz.func276,Tryz.ntmps276
 go_wp2
 refine bodyPost_ret (results_tmp4 rfl _ _ _) rfl ?_
 exact ⟨rfl,rfl⟩
theorem fields_27 (w:World):Calls Tryz.prog 276 #[.int .i64 27] w fun e w'=>e= .returned (.tuple #[.bool true, .bool true, .bool true, .bool false])∧w=w':=by
 go_enter Tryz.func276,Tryz.ntmps276
 go_wp2
 refine bodyPost_ret (results_tmp4 rfl _ _ _) rfl ?_
 exact ⟨rfl,rfl⟩
theorem fields_28 (w:World):Calls Tryz.prog 276 #[.int .i64 28] w fun e w'=>e= .returned (.tuple #[.bool true, .bool false, .bool false, .bool false])∧w=w':=by
 go_enter Tryz.func276,Tryz.ntmps276
 go_wp2
 refine bodyPost_ret (results_tmp4 rfl _ _ _) rfl ?_
 exact ⟨rfl,rfl⟩
theorem fields_29 (w:World):Calls Tryz.prog 276 #[.int .i64 29] w fun e w'=>e= .returned (.tuple #[.bool true, .bool false, .bool false, .bool false])∧w=w':=by
 go_enter Tryz.func276,Tryz.ntmps276
 go_wp2
 refine bodyPost_ret (results_tmp4 rfl _ _ _) rfl ?_
 exact ⟨rfl,rfl⟩
theorem fields_30 (w:World):Calls Tryz.prog 276 #[.int .i64 30] w fun e w'=>e= .returned (.tuple #[.bool true, .bool false, .bool false, .bool false])∧w=w':=by
 go_enter Tryz.func276,Tryz.ntmps276
 go_wp2
 refine bodyPost_ret (results_tmp4 rfl _ _ _) rfl ?_
 exact ⟨rfl,rfl⟩
theorem fields_31 (w:World):Calls Tryz.prog 276 #[.int .i64 31] w fun e w'=>e= .returned (.tuple #[.bool true, .bool true, .bool false, .bool true])∧w=w':=by
 go_enter Tryz.func276,Tryz.ntmps276
 go_wp2
 refine bodyPost_ret (results_tmp4 rfl _ _ _) rfl ?_
 exact ⟨rfl,rfl⟩
theorem fields_32 (w:World):Calls Tryz.prog 276 #[.int .i64 32] w fun e w'=>e= .returned (.tuple #[.bool true, .bool true, .bool true, .bool true])∧w=w':=by
 go_enter Tryz.func276,Tryz.ntmps276
 go_wp2
 refine bodyPost_ret (results_tmp4 rfl _ _ _) rfl ?_
 exact ⟨rfl,rfl⟩
theorem fields_33 (w:World):Calls Tryz.prog 276 #[.int .i64 33] w fun e w'=>e= .returned (.tuple #[.bool false, .bool false, .bool false, .bool false])∧w=w':=by
 go_enter Tryz.func276,Tryz.ntmps276
 go_wp2
 refine bodyPost_ret (results_tmp4 rfl _ _ _) rfl ?_
 exact ⟨rfl,rfl⟩
theorem fields_34 (w:World):Calls Tryz.prog 276 #[.int .i64 34] w fun e w'=>e= .returned (.tuple #[.bool true, .bool false, .bool false, .bool false])∧w=w':=by
 go_enter Tryz.func276,Tryz.ntmps276
 go_wp2
 refine bodyPost_ret (results_tmp4 rfl _ _ _) rfl ?_
 exact ⟨rfl,rfl⟩
theorem fields_35 (w:World):Calls Tryz.prog 276 #[.int .i64 35] w fun e w'=>e= .returned (.tuple #[.bool true, .bool false, .bool false, .bool false])∧w=w':=by
 go_enter Tryz.func276,Tryz.ntmps276
 go_wp2
 refine bodyPost_ret (results_tmp4 rfl _ _ _) rfl ?_
 exact ⟨rfl,rfl⟩
theorem fields_36 (w:World):Calls Tryz.prog 276 #[.int .i64 36] w fun e w'=>e= .returned (.tuple #[.bool true, .bool false, .bool false, .bool false])∧w=w':=by
 go_enter Tryz.func276,Tryz.ntmps276
 go_wp2
 refine bodyPost_ret (results_tmp4 rfl _ _ _) rfl ?_
 exact ⟨rfl,rfl⟩
theorem fields_37 (w:World):Calls Tryz.prog 276 #[.int .i64 37] w fun e w'=>e= .returned (.tuple #[.bool true, .bool false, .bool false, .bool false])∧w=w':=by
 go_enter Tryz.func276,Tryz.ntmps276
 go_wp2
 refine bodyPost_ret (results_tmp4 rfl _ _ _) rfl ?_
 exact ⟨rfl,rfl⟩
theorem fields_38 (w:World):Calls Tryz.prog 276 #[.int .i64 38] w fun e w'=>e= .returned (.tuple #[.bool true, .bool false, .bool false, .bool false])∧w=w':=by
 go_enter Tryz.func276,Tryz.ntmps276
 go_wp2
 refine bodyPost_ret (results_tmp4 rfl _ _ _) rfl ?_
 exact ⟨rfl,rfl⟩
theorem fields_39 (w:World):Calls Tryz.prog 276 #[.int .i64 39] w fun e w'=>e= .returned (.tuple #[.bool true, .bool true, .bool false, .bool false])∧w=w':=by
 go_enter Tryz.func276,Tryz.ntmps276
 go_wp2
 refine bodyPost_ret (results_tmp4 rfl _ _ _) rfl ?_
 exact ⟨rfl,rfl⟩
theorem fields_40 (w:World):Calls Tryz.prog 276 #[.int .i64 40] w fun e w'=>e= .returned (.tuple #[.bool true, .bool false, .bool false, .bool false])∧w=w':=by
 go_enter Tryz.func276,Tryz.ntmps276
 go_wp2
 refine bodyPost_ret (results_tmp4 rfl _ _ _) rfl ?_
 exact ⟨rfl,rfl⟩
theorem fields_41 (w:World):Calls Tryz.prog 276 #[.int .i64 41] w fun e w'=>e= .returned (.tuple #[.bool true, .bool false, .bool false, .bool false])∧w=w':=by
 go_enter Tryz.func276,Tryz.ntmps276
 go_wp2
 refine bodyPost_ret (results_tmp4 rfl _ _ _) rfl ?_
 exact ⟨rfl,rfl⟩
theorem fields_42 (w:World):Calls Tryz.prog 276 #[.int .i64 42] w fun e w'=>e= .returned (.tuple #[.bool true, .bool false, .bool false, .bool false])∧w=w':=by
 go_enter Tryz.func276,Tryz.ntmps276
 go_wp2
 refine bodyPost_ret (results_tmp4 rfl _ _ _) rfl ?_
 exact ⟨rfl,rfl⟩
theorem fields_43 (w:World):Calls Tryz.prog 276 #[.int .i64 43] w fun e w'=>e= .returned (.tuple #[.bool true, .bool true, .bool false, .bool true])∧w=w':=by
 go_enter Tryz.func276,Tryz.ntmps276
 go_wp2
 refine bodyPost_ret (results_tmp4 rfl _ _ _) rfl ?_
 exact ⟨rfl,rfl⟩
theorem fields_44 (w:World):Calls Tryz.prog 276 #[.int .i64 44] w fun e w'=>e= .returned (.tuple #[.bool true, .bool false, .bool false, .bool false])∧w=w':=by
 go_enter Tryz.func276,Tryz.ntmps276
 go_wp2
 refine bodyPost_ret (results_tmp4 rfl _ _ _) rfl ?_
 exact ⟨rfl,rfl⟩
theorem fields_45 (w:World):Calls Tryz.prog 276 #[.int .i64 45] w fun e w'=>e= .returned (.tuple #[.bool true, .bool true, .bool false, .bool true])∧w=w':=by
 go_enter Tryz.func276,Tryz.ntmps276
 go_wp2
 refine bodyPost_ret (results_tmp4 rfl _ _ _) rfl ?_
 exact ⟨rfl,rfl⟩
theorem fields_46 (w:World):Calls Tryz.prog 276 #[.int .i64 46] w fun e w'=>e= .returned (.tuple #[.bool true, .bool false, .bool false, .bool false])∧w=w':=by
 go_enter Tryz.func276,Tryz.ntmps276
 go_wp2
 refine bodyPost_ret (results_tmp4 rfl _ _ _) rfl ?_
 exact ⟨rfl,rfl⟩
theorem fields_47 (w:World):Calls Tryz.prog 276 #[.int .i64 47] w fun e w'=>e= .returned (.tuple #[.bool true, .bool true, .bool false, .bool false])∧w=w':=by
 go_enter Tryz.func276,Tryz.ntmps276
 go_wp2
 refine bodyPost_ret (results_tmp4 rfl _ _ _) rfl ?_
 exact ⟨rfl,rfl⟩
theorem fields_48 (w:World):Calls Tryz.prog 276 #[.int .i64 48] w fun e w'=>e= .returned (.tuple #[.bool true, .bool true, .bool true, .bool false])∧w=w':=by
 go_enter Tryz.func276,Tryz.ntmps276
 go_wp2
 refine bodyPost_ret (results_tmp4 rfl _ _ _) rfl ?_
 exact ⟨rfl,rfl⟩
theorem fields_49 (w:World):Calls Tryz.prog 276 #[.int .i64 49] w fun e w'=>e= .returned (.tuple #[.bool true, .bool true, .bool false, .bool false])∧w=w':=by
 go_enter Tryz.func276,Tryz.ntmps276
 go_wp2
 refine bodyPost_ret (results_tmp4 rfl _ _ _) rfl ?_
 exact ⟨rfl,rfl⟩
theorem fields_50 (w:World):Calls Tryz.prog 276 #[.int .i64 50] w fun e w'=>e= .returned (.tuple #[.bool true, .bool true, .bool false, .bool false])∧w=w':=by
 go_enter Tryz.func276,Tryz.ntmps276
 go_wp2
 refine bodyPost_ret (results_tmp4 rfl _ _ _) rfl ?_
 exact ⟨rfl,rfl⟩
theorem fields_51 (w:World):Calls Tryz.prog 276 #[.int .i64 51] w fun e w'=>e= .returned (.tuple #[.bool true, .bool false, .bool false, .bool false])∧w=w':=by
 go_enter Tryz.func276,Tryz.ntmps276
 go_wp2
 refine bodyPost_ret (results_tmp4 rfl _ _ _) rfl ?_
 exact ⟨rfl,rfl⟩
theorem fields_52 (w:World):Calls Tryz.prog 276 #[.int .i64 52] w fun e w'=>e= .returned (.tuple #[.bool true, .bool false, .bool false, .bool false])∧w=w':=by
 go_enter Tryz.func276,Tryz.ntmps276
 go_wp2
 refine bodyPost_ret (results_tmp4 rfl _ _ _) rfl ?_
 exact ⟨rfl,rfl⟩
theorem fields_53 (w:World):Calls Tryz.prog 276 #[.int .i64 53] w fun e w'=>e= .returned (.tuple #[.bool true, .bool false, .bool false, .bool false])∧w=w':=by
 go_enter Tryz.func276,Tryz.ntmps276
 go_wp2
 refine bodyPost_ret (results_tmp4 rfl _ _ _) rfl ?_
 exact ⟨rfl,rfl⟩
theorem fields_54 (w:World):Calls Tryz.prog 276 #[.int .i64 54] w fun e w'=>e= .returned (.tuple #[.bool true, .bool true, .bool false, .bool false])∧w=w':=by
 go_enter Tryz.func276,Tryz.ntmps276
 go_wp2
 refine bodyPost_ret (results_tmp4 rfl _ _ _) rfl ?_
 exact ⟨rfl,rfl⟩
theorem fields_55 (w:World):Calls Tryz.prog 276 #[.int .i64 55] w fun e w'=>e= .returned (.tuple #[.bool false, .bool false, .bool false, .bool false])∧w=w':=by
 go_enter Tryz.func276,Tryz.ntmps276
 go_wp2
 refine bodyPost_ret (results_tmp4 rfl _ _ _) rfl ?_
 exact ⟨rfl,rfl⟩
theorem fields_56 (w:World):Calls Tryz.prog 276 #[.int .i64 56] w fun e w'=>e= .returned (.tuple #[.bool false, .bool false, .bool false, .bool false])∧w=w':=by
 go_enter Tryz.func276,Tryz.ntmps276
 go_wp2
 refine bodyPost_ret (results_tmp4 rfl _ _ _) rfl ?_
 exact ⟨rfl,rfl⟩
theorem fields_57 (w:World):Calls Tryz.prog 276 #[.int .i64 57] w fun e w'=>e= .returned (.tuple #[.bool true, .bool false, .bool false, .bool false])∧w=w':=by
 go_enter Tryz.func276,Tryz.ntmps276
 go_wp2
 refine bodyPost_ret (results_tmp4 rfl _ _ _) rfl ?_
 exact ⟨rfl,rfl⟩
theorem fields_58 (w:World):Calls Tryz.prog 276 #[.int .i64 58] w fun e w'=>e= .returned (.tuple #[.bool false, .bool false, .bool false, .bool false])∧w=w':=by
 go_enter Tryz.func276,Tryz.ntmps276
 go_wp2
 refine bodyPost_ret (results_tmp4 rfl _ _ _) rfl ?_
 exact ⟨rfl,rfl⟩
def OpsOut (w:World) (k0 k1 k2:Int) (e:Ending) (w':World):Prop:=e= .returned (.agg #[.int .i64 k0, .int .i64 k1, .int .i64 k2])∧Below w.heap.size w w'
theorem operands_1 (w:World):Calls Tryz.prog 218 #[.int .i64 1] w (OpsOut w 1 9 0):=by
 go_enter Tryz.func218,Tryz.ntmps218
 go_wp2
 refine bodyPost_ret (v:= .agg #[.int .i64 1, .int .i64 9, .int .i64 0]) (by simp[results,Tryz.results218,go_sem]) rfl ⟨rfl,?_⟩
 repeat (first|exact Below.refl _ _|refine Below.setCell ?_ (by simp) _|refine Below.alloc ?_ (by simp) _)
theorem operands_2 (w:World):Calls Tryz.prog 218 #[.int .i64 2] w (OpsOut w 1 2 0):=by
 go_enter Tryz.func218,Tryz.ntmps218
 go_wp2_with (go_at_call 276;refine (fields_2 _).mono ?_;rintro e w' ⟨rfl,rfl⟩)
 refine bodyPost_ret (v:= .agg #[.int .i64 1, .int .i64 2, .int .i64 0]) (by simp[results,Tryz.results218,go_sem]) rfl ⟨rfl,?_⟩
 repeat (first|exact Below.refl _ _|refine Below.setCell ?_ (by simp) _|refine Below.alloc ?_ (by simp) _)
theorem operands_3 (w:World):Calls Tryz.prog 218 #[.int .i64 3] w (OpsOut w 1 2 4):=by
 go_enter Tryz.func218,Tryz.ntmps218
 go_wp2_with (go_at_call 276;refine (fields_3 _).mono ?_;rintro e w' ⟨rfl,rfl⟩)
 refine bodyPost_ret (v:= .agg #[.int .i64 1, .int .i64 2, .int .i64 4]) (by simp[results,Tryz.results218,go_sem]) rfl ⟨rfl,?_⟩
 repeat (first|exact Below.refl _ _|refine Below.setCell ?_ (by simp) _|refine Below.alloc ?_ (by simp) _)
theorem operands_4 (w:World):Calls Tryz.prog 218 #[.int .i64 4] w (OpsOut w 1 2 4):=by
 go_enter Tryz.func218,Tryz.ntmps218
 go_wp2_with (go_at_call 276;refine (fields_4 _).mono ?_;rintro e w' ⟨rfl,rfl⟩)
 refine bodyPost_ret (v:= .agg #[.int .i64 1, .int .i64 2, .int .i64 4]) (by simp[results,Tryz.results218,go_sem]) rfl ⟨rfl,?_⟩
 repeat (first|exact Below.refl _ _|refine Below.setCell ?_ (by simp) _|refine Below.alloc ?_ (by simp) _)
theorem operands_5 (w:World):Calls Tryz.prog 218 #[.int .i64 5] w (OpsOut w 1 2 4):=by
 go_enter Tryz.func218,Tryz.ntmps218
 go_wp2_with (go_at_call 276;refine (fields_5 _).mono ?_;rintro e w' ⟨rfl,rfl⟩)
 refine bodyPost_ret (v:= .agg #[.int .i64 1, .int .i64 2, .int .i64 4]) (by simp[results,Tryz.results218,go_sem]) rfl ⟨rfl,?_⟩
 repeat (first|exact Below.refl _ _|refine Below.setCell ?_ (by simp) _|refine Below.alloc ?_ (by simp) _)
theorem operands_6 (w:World):Calls Tryz.prog 218 #[.int .i64 6] w (OpsOut w 1 2 4):=by
 go_enter Tryz.func218,Tryz.ntmps218
 go_wp2_with (go_at_call 276;refine (fields_6 _).mono ?_;rintro e w' ⟨rfl,rfl⟩)
 refine bodyPost_ret (v:= .agg #[.int .i64 1, .int .i64 2, .int .i64 4]) (by simp[results,Tryz.results218,go_sem]) rfl ⟨rfl,?_⟩
 repeat (first|exact Below.refl _ _|refine Below.setCell ?_ (by simp) _|refine Below.alloc ?_ (by simp) _)
theorem operands_7 (w:World):Calls Tryz.prog 218 #[.int .i64 7] w (OpsOut w 1 2 4):=by
 go_enter Tryz.func218,Tryz.ntmps218
 go_wp2_with (go_at_call 276;refine (fields_7 _).mono ?_;rintro e w' ⟨rfl,rfl⟩)
 refine bodyPost_ret (v:= .agg #[.int .i64 1, .int .i64 2, .int .i64 4]) (by simp[results,Tryz.results218,go_sem]) rfl ⟨rfl,?_⟩
 repeat (first|exact Below.refl _ _|refine Below.setCell ?_ (by simp) _|refine Below.alloc ?_ (by simp) _)
theorem operands_8 (w:World):Calls Tryz.prog 218 #[.int .i64 8] w (OpsOut w 1 2 4):=by
 go_enter Tryz.func218,Tryz.ntmps218
 go_wp2_with (go_at_call 276;refine (fields_8 _).mono ?_;rintro e w' ⟨rfl,rfl⟩)
 refine bodyPost_ret (v:= .agg #[.int .i64 1, .int .i64 2, .int .i64 4]) (by simp[results,Tryz.results218,go_sem]) rfl ⟨rfl,?_⟩
 repeat (first|exact Below.refl _ _|refine Below.setCell ?_ (by simp) _|refine Below.alloc ?_ (by simp) _)
theorem operands_9 (w:World):Calls Tryz.prog 218 #[.int .i64 9] w (OpsOut w 1 2 4):=by
 go_enter Tryz.func218,Tryz.ntmps218
 go_wp2_with (go_at_call 276;refine (fields_9 _).mono ?_;rintro e w' ⟨rfl,rfl⟩)
 refine bodyPost_ret (v:= .agg #[.int .i64 1, .int .i64 2, .int .i64 4]) (by simp[results,Tryz.results218,go_sem]) rfl ⟨rfl,?_⟩
 repeat (first|exact Below.refl _ _|refine Below.setCell ?_ (by simp) _|refine Below.alloc ?_ (by simp) _)
theorem operands_10 (w:World):Calls Tryz.prog 218 #[.int .i64 10] w (OpsOut w 1 2 4):=by
 go_enter Tryz.func218,Tryz.ntmps218
 go_wp2_with (go_at_call 276;refine (fields_10 _).mono ?_;rintro e w' ⟨rfl,rfl⟩)
 refine bodyPost_ret (v:= .agg #[.int .i64 1, .int .i64 2, .int .i64 4]) (by simp[results,Tryz.results218,go_sem]) rfl ⟨rfl,?_⟩
 repeat (first|exact Below.refl _ _|refine Below.setCell ?_ (by simp) _|refine Below.alloc ?_ (by simp) _)
theorem operands_11 (w:World):Calls Tryz.prog 218 #[.int .i64 11] w (OpsOut w 1 2 4):=by
 go_enter Tryz.func218,Tryz.ntmps218
 go_wp2_with (go_at_call 276;refine (fields_11 _).mono ?_;rintro e w' ⟨rfl,rfl⟩)
 refine bodyPost_ret (v:= .agg #[.int .i64 1, .int .i64 2, .int .i64 4]) (by simp[results,Tryz.results218,go_sem]) rfl ⟨rfl,?_⟩
 repeat (first|exact Below.refl _ _|refine Below.setCell ?_ (by simp) _|refine Below.alloc ?_ (by simp) _)
theorem operands_12 (w:World):Calls Tryz.prog 218 #[.int .i64 12] w (OpsOut w 8 0 0):=by
 go_enter Tryz.func218,Tryz.ntmps218
 go_wp2
 refine bodyPost_ret (v:= .agg #[.int .i64 8, .int .i64 0, .int .i64 0]) (by simp[results,Tryz.results218,go_sem]) rfl ⟨rfl,?_⟩
 repeat (first|exact Below.refl _ _|refine Below.setCell ?_ (by simp) _|refine Below.alloc ?_ (by simp) _)
theorem operands_13 (w:World):Calls Tryz.prog 218 #[.int .i64 13] w (OpsOut w 1 8 0):=by
 go_enter Tryz.func218,Tryz.ntmps218
 go_wp2
 refine bodyPost_ret (v:= .agg #[.int .i64 1, .int .i64 8, .int .i64 0]) (by simp[results,Tryz.results218,go_sem]) rfl ⟨rfl,?_⟩
 repeat (first|exact Below.refl _ _|refine Below.setCell ?_ (by simp) _|refine Below.alloc ?_ (by simp) _)
theorem operands_14 (w:World):Calls Tryz.prog 218 #[.int .i64 14] w (OpsOut w 1 8 0):=by
 go_enter Tryz.func218,Tryz.ntmps218
 go_wp2
 refine bodyPost_ret (v:= .agg #[.int .i64 1, .int .i64 8, .int .i64 0]) (by simp[results,Tryz.results218,go_sem]) rfl ⟨rfl,?_⟩
 repeat (first|exact Below.refl _ _|refine Below.setCell ?_ (by simp) _|refine Below.alloc ?_ (by simp) _)
theorem operands_15 (w:World):Calls Tryz.prog 218 #[.int .i64 15] w (OpsOut w 8 0 0):=by
 go_enter Tryz.func218,Tryz.ntmps218
 go_wp2
 refine bodyPost_ret (v:= .agg #[.int .i64 8, .int .i64 0, .int .i64 0]) (by simp[results,Tryz.results218,go_sem]) rfl ⟨rfl,?_⟩
 repeat (first|exact Below.refl _ _|refine Below.setCell ?_ (by simp) _|refine Below.alloc ?_ (by simp) _)
theorem operands_16 (w:World):Calls Tryz.prog 218 #[.int .i64 16] w (OpsOut w 0 0 0):=by
 go_enter Tryz.func218,Tryz.ntmps218
 go_wp2_with (go_at_call 276;refine (fields_16 _).mono ?_;rintro e w' ⟨rfl,rfl⟩)
 refine bodyPost_ret (v:= .agg #[.int .i64 0, .int .i64 0, .int .i64 0]) (by simp[results,Tryz.results218,go_sem]) rfl ⟨rfl,?_⟩
 repeat (first|exact Below.refl _ _|refine Below.setCell ?_ (by simp) _|refine Below.alloc ?_ (by simp) _)
theorem operands_17 (w:World):Calls Tryz.prog 218 #[.int .i64 17] w (OpsOut w 1 6 0):=by
 go_enter Tryz.func218,Tryz.ntmps218
 go_wp2
 refine bodyPost_ret (v:= .agg #[.int .i64 1, .int .i64 6, .int .i64 0]) (by simp[results,Tryz.results218,go_sem]) rfl ⟨rfl,?_⟩
 repeat (first|exact Below.refl _ _|refine Below.setCell ?_ (by simp) _|refine Below.alloc ?_ (by simp) _)
theorem operands_18 (w:World):Calls Tryz.prog 218 #[.int .i64 18] w (OpsOut w 1 6 0):=by
 go_enter Tryz.func218,Tryz.ntmps218
 go_wp2
 refine bodyPost_ret (v:= .agg #[.int .i64 1, .int .i64 6, .int .i64 0]) (by simp[results,Tryz.results218,go_sem]) rfl ⟨rfl,?_⟩
 repeat (first|exact Below.refl _ _|refine Below.setCell ?_ (by simp) _|refine Below.alloc ?_ (by simp) _)
theorem operands_19 (w:World):Calls Tryz.prog 218 #[.int .i64 19] w (OpsOut w 1 6 0):=by
 go_enter Tryz.func218,Tryz.ntmps218
 go_wp2
 refine bodyPost_ret (v:= .agg #[.int .i64 1, .int .i64 6, .int .i64 0]) (by simp[results,Tryz.results218,go_sem]) rfl ⟨rfl,?_⟩
 repeat (first|exact Below.refl _ _|refine Below.setCell ?_ (by simp) _|refine Below.alloc ?_ (by simp) _)
theorem operands_20 (w:World):Calls Tryz.prog 218 #[.int .i64 20] w (OpsOut w 1 6 0):=by
 go_enter Tryz.func218,Tryz.ntmps218
 go_wp2
 refine bodyPost_ret (v:= .agg #[.int .i64 1, .int .i64 6, .int .i64 0]) (by simp[results,Tryz.results218,go_sem]) rfl ⟨rfl,?_⟩
 repeat (first|exact Below.refl _ _|refine Below.setCell ?_ (by simp) _|refine Below.alloc ?_ (by simp) _)
theorem operands_21 (w:World):Calls Tryz.prog 218 #[.int .i64 21] w (OpsOut w 1 6 3):=by
 go_enter Tryz.func218,Tryz.ntmps218
 go_wp2
 refine bodyPost_ret (v:= .agg #[.int .i64 1, .int .i64 6, .int .i64 3]) (by simp[results,Tryz.results218,go_sem]) rfl ⟨rfl,?_⟩
 repeat (first|exact Below.refl _ _|refine Below.setCell ?_ (by simp) _|refine Below.alloc ?_ (by simp) _)
theorem operands_22 (w:World):Calls Tryz.prog 218 #[.int .i64 22] w (OpsOut w 7 0 0):=by
 go_enter Tryz.func218,Tryz.ntmps218
 go_wp2
 refine bodyPost_ret (v:= .agg #[.int .i64 7, .int .i64 0, .int .i64 0]) (by simp[results,Tryz.results218,go_sem]) rfl ⟨rfl,?_⟩
 repeat (first|exact Below.refl _ _|refine Below.setCell ?_ (by simp) _|refine Below.alloc ?_ (by simp) _)
theorem operands_23 (w:World):Calls Tryz.prog 218 #[.int .i64 23] w (OpsOut w 1 2 0):=by
 go_enter Tryz.func218,Tryz.ntmps218
 go_wp2_with (go_at_call 276;refine (fields_23 _).mono ?_;rintro e w' ⟨rfl,rfl⟩)
 refine bodyPost_ret (v:= .agg #[.int .i64 1, .int .i64 2, .int .i64 0]) (by simp[results,Tryz.results218,go_sem]) rfl ⟨rfl,?_⟩
 repeat (first|exact Below.refl _ _|refine Below.setCell ?_ (by simp) _|refine Below.alloc ?_ (by simp) _)
theorem operands_24 (w:World):Calls Tryz.prog 218 #[.int .i64 24] w (OpsOut w 1 2 3):=by
 go_enter Tryz.func218,Tryz.ntmps218
 go_wp2_with (go_at_call 276;refine (fields_24 _).mono ?_;rintro e w' ⟨rfl,rfl⟩)
 refine bodyPost_ret (v:= .agg #[.int .i64 1, .int .i64 2, .int .i64 3]) (by simp[results,Tryz.results218,go_sem]) rfl ⟨rfl,?_⟩
 repeat (first|exact Below.refl _ _|refine Below.setCell ?_ (by simp) _|refine Below.alloc ?_ (by simp) _)
theorem operands_25 (w:World):Calls Tryz.prog 218 #[.int .i64 25] w (OpsOut w 1 2 3):=by
 go_enter Tryz.func218,Tryz.ntmps218
 go_wp2_with (go_at_call 276;refine (fields_25 _).mono ?_;rintro e w' ⟨rfl,rfl⟩)
 refine bodyPost_ret (v:= .agg #[.int .i64 1, .int .i64 2, .int .i64 3]) (by simp[results,Tryz.results218,go_sem]) rfl ⟨rfl,?_⟩
 repeat (first|exact Below.refl _ _|refine Below.setCell ?_ (by simp) _|refine Below.alloc ?_ (by simp) _)
theorem operands_26 (w:World):Calls Tryz.prog 218 #[.int .i64 26] w (OpsOut w 1 2 3):=by
 go_enter Tryz.func218,Tryz.ntmps218
 go_wp2_with (go_at_call 276;refine (fields_26 _).mono ?_;rintro e w' ⟨rfl,rfl⟩)
 refine bodyPost_ret (v:= .agg #[.int .i64 1, .int .i64 2, .int .i64 3]) (by simp[results,Tryz.results218,go_sem]) rfl ⟨rfl,?_⟩
 repeat (first|exact Below.refl _ _|refine Below.setCell ?_ (by simp) _|refine Below.alloc ?_ (by simp) _)
theorem operands_27 (w:World):Calls Tryz.prog 218 #[.int .i64 27] w (OpsOut w 1 2 3):=by
 go_enter Tryz.func218,Tryz.ntmps218
 go_wp2_with (go_at_call 276;refine (fields_27 _).mono ?_;rintro e w' ⟨rfl,rfl⟩)
 refine bodyPost_ret (v:= .agg #[.int .i64 1, .int .i64 2, .int .i64 3]) (by simp[results,Tryz.results218,go_sem]) rfl ⟨rfl,?_⟩
 repeat (first|exact Below.refl _ _|refine Below.setCell ?_ (by simp) _|refine Below.alloc ?_ (by simp) _)
theorem operands_28 (w:World):Calls Tryz.prog 218 #[.int .i64 28] w (OpsOut w 1 0 0):=by
 go_enter Tryz.func218,Tryz.ntmps218
 go_wp2_with (go_at_call 276;refine (fields_28 _).mono ?_;rintro e w' ⟨rfl,rfl⟩)
 refine bodyPost_ret (v:= .agg #[.int .i64 1, .int .i64 0, .int .i64 0]) (by simp[results,Tryz.results218,go_sem]) rfl ⟨rfl,?_⟩
 repeat (first|exact Below.refl _ _|refine Below.setCell ?_ (by simp) _|refine Below.alloc ?_ (by simp) _)
theorem operands_29 (w:World):Calls Tryz.prog 218 #[.int .i64 29] w (OpsOut w 1 0 0):=by
 go_enter Tryz.func218,Tryz.ntmps218
 go_wp2_with (go_at_call 276;refine (fields_29 _).mono ?_;rintro e w' ⟨rfl,rfl⟩)
 refine bodyPost_ret (v:= .agg #[.int .i64 1, .int .i64 0, .int .i64 0]) (by simp[results,Tryz.results218,go_sem]) rfl ⟨rfl,?_⟩
 repeat (first|exact Below.refl _ _|refine Below.setCell ?_ (by simp) _|refine Below.alloc ?_ (by simp) _)
theorem operands_30 (w:World):Calls Tryz.prog 218 #[.int .i64 30] w (OpsOut w 1 0 0):=by
 go_enter Tryz.func218,Tryz.ntmps218
 go_wp2_with (go_at_call 276;refine (fields_30 _).mono ?_;rintro e w' ⟨rfl,rfl⟩)
 refine bodyPost_ret (v:= .agg #[.int .i64 1, .int .i64 0, .int .i64 0]) (by simp[results,Tryz.results218,go_sem]) rfl ⟨rfl,?_⟩
 repeat (first|exact Below.refl _ _|refine Below.setCell ?_ (by simp) _|refine Below.alloc ?_ (by simp) _)
theorem operands_31 (w:World):Calls Tryz.prog 218 #[.int .i64 31] w (OpsOut w 1 6 0):=by
 go_enter Tryz.func218,Tryz.ntmps218
 go_wp2
 refine bodyPost_ret (v:= .agg #[.int .i64 1, .int .i64 6, .int .i64 0]) (by simp[results,Tryz.results218,go_sem]) rfl ⟨rfl,?_⟩
 repeat (first|exact Below.refl _ _|refine Below.setCell ?_ (by simp) _|refine Below.alloc ?_ (by simp) _)
theorem operands_32 (w:World):Calls Tryz.prog 218 #[.int .i64 32] w (OpsOut w 1 6 3):=by
 go_enter Tryz.func218,Tryz.ntmps218
 go_wp2
 refine bodyPost_ret (v:= .agg #[.int .i64 1, .int .i64 6, .int .i64 3]) (by simp[results,Tryz.results218,go_sem]) rfl ⟨rfl,?_⟩
 repeat (first|exact Below.refl _ _|refine Below.setCell ?_ (by simp) _|refine Below.alloc ?_ (by simp) _)
theorem operands_33 (w:World):Calls Tryz.prog 218 #[.int .i64 33] w (OpsOut w 0 0 0):=by
 go_enter Tryz.func218,Tryz.ntmps218
 go_wp2_with (go_at_call 276;refine (fields_33 _).mono ?_;rintro e w' ⟨rfl,rfl⟩)
 refine bodyPost_ret (v:= .agg #[.int .i64 0, .int .i64 0, .int .i64 0]) (by simp[results,Tryz.results218,go_sem]) rfl ⟨rfl,?_⟩
 repeat (first|exact Below.refl _ _|refine Below.setCell ?_ (by simp) _|refine Below.alloc ?_ (by simp) _)
theorem operands_34 (w:World):Calls Tryz.prog 218 #[.int .i64 34] w (OpsOut w 1 0 0):=by
 go_enter Tryz.func218,Tryz.ntmps218
 go_wp2_with (go_at_call 276;refine (fields_34 _).mono ?_;rintro e w' ⟨rfl,rfl⟩)
 refine bodyPost_ret (v:= .agg #[.int .i64 1, .int .i64 0, .int .i64 0]) (by simp[results,Tryz.results218,go_sem]) rfl ⟨rfl,?_⟩
 repeat (first|exact Below.refl _ _|refine Below.setCell ?_ (by simp) _|refine Below.alloc ?_ (by simp) _)
theorem operands_35 (w:World):Calls Tryz.prog 218 #[.int .i64 35] w (OpsOut w 1 0 0):=by
 go_enter Tryz.func218,Tryz.ntmps218
 go_wp2_with (go_at_call 276;refine (fields_35 _).mono ?_;rintro e w' ⟨rfl,rfl⟩)
 refine bodyPost_ret (v:= .agg #[.int .i64 1, .int .i64 0, .int .i64 0]) (by simp[results,Tryz.results218,go_sem]) rfl ⟨rfl,?_⟩
 repeat (first|exact Below.refl _ _|refine Below.setCell ?_ (by simp) _|refine Below.alloc ?_ (by simp) _)
theorem operands_36 (w:World):Calls Tryz.prog 218 #[.int .i64 36] w (OpsOut w 1 0 0):=by
 go_enter Tryz.func218,Tryz.ntmps218
 go_wp2_with (go_at_call 276;refine (fields_36 _).mono ?_;rintro e w' ⟨rfl,rfl⟩)
 refine bodyPost_ret (v:= .agg #[.int .i64 1, .int .i64 0, .int .i64 0]) (by simp[results,Tryz.results218,go_sem]) rfl ⟨rfl,?_⟩
 repeat (first|exact Below.refl _ _|refine Below.setCell ?_ (by simp) _|refine Below.alloc ?_ (by simp) _)
theorem operands_37 (w:World):Calls Tryz.prog 218 #[.int .i64 37] w (OpsOut w 1 0 0):=by
 go_enter Tryz.func218,Tryz.ntmps218
 go_wp2_with (go_at_call 276;refine (fields_37 _).mono ?_;rintro e w' ⟨rfl,rfl⟩)
 refine bodyPost_ret (v:= .agg #[.int .i64 1, .int .i64 0, .int .i64 0]) (by simp[results,Tryz.results218,go_sem]) rfl ⟨rfl,?_⟩
 repeat (first|exact Below.refl _ _|refine Below.setCell ?_ (by simp) _|refine Below.alloc ?_ (by simp) _)
theorem operands_38 (w:World):Calls Tryz.prog 218 #[.int .i64 38] w (OpsOut w 1 0 0):=by
 go_enter Tryz.func218,Tryz.ntmps218
 go_wp2_with (go_at_call 276;refine (fields_38 _).mono ?_;rintro e w' ⟨rfl,rfl⟩)
 refine bodyPost_ret (v:= .agg #[.int .i64 1, .int .i64 0, .int .i64 0]) (by simp[results,Tryz.results218,go_sem]) rfl ⟨rfl,?_⟩
 repeat (first|exact Below.refl _ _|refine Below.setCell ?_ (by simp) _|refine Below.alloc ?_ (by simp) _)
theorem operands_39 (w:World):Calls Tryz.prog 218 #[.int .i64 39] w (OpsOut w 1 2 0):=by
 go_enter Tryz.func218,Tryz.ntmps218
 go_wp2_with (go_at_call 276;refine (fields_39 _).mono ?_;rintro e w' ⟨rfl,rfl⟩)
 refine bodyPost_ret (v:= .agg #[.int .i64 1, .int .i64 2, .int .i64 0]) (by simp[results,Tryz.results218,go_sem]) rfl ⟨rfl,?_⟩
 repeat (first|exact Below.refl _ _|refine Below.setCell ?_ (by simp) _|refine Below.alloc ?_ (by simp) _)
theorem operands_40 (w:World):Calls Tryz.prog 218 #[.int .i64 40] w (OpsOut w 1 0 0):=by
 go_enter Tryz.func218,Tryz.ntmps218
 go_wp2_with (go_at_call 276;refine (fields_40 _).mono ?_;rintro e w' ⟨rfl,rfl⟩)
 refine bodyPost_ret (v:= .agg #[.int .i64 1, .int .i64 0, .int .i64 0]) (by simp[results,Tryz.results218,go_sem]) rfl ⟨rfl,?_⟩
 repeat (first|exact Below.refl _ _|refine Below.setCell ?_ (by simp) _|refine Below.alloc ?_ (by simp) _)
theorem operands_41 (w:World):Calls Tryz.prog 218 #[.int .i64 41] w (OpsOut w 1 0 0):=by
 go_enter Tryz.func218,Tryz.ntmps218
 go_wp2_with (go_at_call 276;refine (fields_41 _).mono ?_;rintro e w' ⟨rfl,rfl⟩)
 refine bodyPost_ret (v:= .agg #[.int .i64 1, .int .i64 0, .int .i64 0]) (by simp[results,Tryz.results218,go_sem]) rfl ⟨rfl,?_⟩
 repeat (first|exact Below.refl _ _|refine Below.setCell ?_ (by simp) _|refine Below.alloc ?_ (by simp) _)
theorem operands_42 (w:World):Calls Tryz.prog 218 #[.int .i64 42] w (OpsOut w 1 0 0):=by
 go_enter Tryz.func218,Tryz.ntmps218
 go_wp2_with (go_at_call 276;refine (fields_42 _).mono ?_;rintro e w' ⟨rfl,rfl⟩)
 refine bodyPost_ret (v:= .agg #[.int .i64 1, .int .i64 0, .int .i64 0]) (by simp[results,Tryz.results218,go_sem]) rfl ⟨rfl,?_⟩
 repeat (first|exact Below.refl _ _|refine Below.setCell ?_ (by simp) _|refine Below.alloc ?_ (by simp) _)
theorem operands_43 (w:World):Calls Tryz.prog 218 #[.int .i64 43] w (OpsOut w 1 5 0):=by
 go_enter Tryz.func218,Tryz.ntmps218
 go_wp2
 refine bodyPost_ret (v:= .agg #[.int .i64 1, .int .i64 5, .int .i64 0]) (by simp[results,Tryz.results218,go_sem]) rfl ⟨rfl,?_⟩
 repeat (first|exact Below.refl _ _|refine Below.setCell ?_ (by simp) _|refine Below.alloc ?_ (by simp) _)
theorem operands_44 (w:World):Calls Tryz.prog 218 #[.int .i64 44] w (OpsOut w 1 0 0):=by
 go_enter Tryz.func218,Tryz.ntmps218
 go_wp2_with (go_at_call 276;refine (fields_44 _).mono ?_;rintro e w' ⟨rfl,rfl⟩)
 refine bodyPost_ret (v:= .agg #[.int .i64 1, .int .i64 0, .int .i64 0]) (by simp[results,Tryz.results218,go_sem]) rfl ⟨rfl,?_⟩
 repeat (first|exact Below.refl _ _|refine Below.setCell ?_ (by simp) _|refine Below.alloc ?_ (by simp) _)
theorem operands_45 (w:World):Calls Tryz.prog 218 #[.int .i64 45] w (OpsOut w 1 2 7):=by
 go_enter Tryz.func218,Tryz.ntmps218
 go_wp2
 refine bodyPost_ret (v:= .agg #[.int .i64 1, .int .i64 2, .int .i64 7]) (by simp[results,Tryz.results218,go_sem]) rfl ⟨rfl,?_⟩
 repeat (first|exact Below.refl _ _|refine Below.setCell ?_ (by simp) _|refine Below.alloc ?_ (by simp) _)
theorem operands_46 (w:World):Calls Tryz.prog 218 #[.int .i64 46] w (OpsOut w 1 0 0):=by
 go_enter Tryz.func218,Tryz.ntmps218
 go_wp2_with (go_at_call 276;refine (fields_46 _).mono ?_;rintro e w' ⟨rfl,rfl⟩)
 refine bodyPost_ret (v:= .agg #[.int .i64 1, .int .i64 0, .int .i64 0]) (by simp[results,Tryz.results218,go_sem]) rfl ⟨rfl,?_⟩
 repeat (first|exact Below.refl _ _|refine Below.setCell ?_ (by simp) _|refine Below.alloc ?_ (by simp) _)
theorem operands_47 (w:World):Calls Tryz.prog 218 #[.int .i64 47] w (OpsOut w 1 2 0):=by
 go_enter Tryz.func218,Tryz.ntmps218
 go_wp2_with (go_at_call 276;refine (fields_47 _).mono ?_;rintro e w' ⟨rfl,rfl⟩)
 refine bodyPost_ret (v:= .agg #[.int .i64 1, .int .i64 2, .int .i64 0]) (by simp[results,Tryz.results218,go_sem]) rfl ⟨rfl,?_⟩
 repeat (first|exact Below.refl _ _|refine Below.setCell ?_ (by simp) _|refine Below.alloc ?_ (by simp) _)
theorem operands_48 (w:World):Calls Tryz.prog 218 #[.int .i64 48] w (OpsOut w 1 2 3):=by
 go_enter Tryz.func218,Tryz.ntmps218
 go_wp2_with (go_at_call 276;refine (fields_48 _).mono ?_;rintro e w' ⟨rfl,rfl⟩)
 refine bodyPost_ret (v:= .agg #[.int .i64 1, .int .i64 2, .int .i64 3]) (by simp[results,Tryz.results218,go_sem]) rfl ⟨rfl,?_⟩
 repeat (first|exact Below.refl _ _|refine Below.setCell ?_ (by simp) _|refine Below.alloc ?_ (by simp) _)
theorem operands_49 (w:World):Calls Tryz.prog 218 #[.int .i64 49] w (OpsOut w 1 2 0):=by
 go_enter Tryz.func218,Tryz.ntmps218
 go_wp2_with (go_at_call 276;refine (fields_49 _).mono ?_;rintro e w' ⟨rfl,rfl⟩)
 refine bodyPost_ret (v:= .agg #[.int .i64 1, .int .i64 2, .int .i64 0]) (by simp[results,Tryz.results218,go_sem]) rfl ⟨rfl,?_⟩
 repeat (first|exact Below.refl _ _|refine Below.setCell ?_ (by simp) _|refine Below.alloc ?_ (by simp) _)
theorem operands_50 (w:World):Calls Tryz.prog 218 #[.int .i64 50] w (OpsOut w 1 2 0):=by
 go_enter Tryz.func218,Tryz.ntmps218
 go_wp2_with (go_at_call 276;refine (fields_50 _).mono ?_;rintro e w' ⟨rfl,rfl⟩)
 refine bodyPost_ret (v:= .agg #[.int .i64 1, .int .i64 2, .int .i64 0]) (by simp[results,Tryz.results218,go_sem]) rfl ⟨rfl,?_⟩
 repeat (first|exact Below.refl _ _|refine Below.setCell ?_ (by simp) _|refine Below.alloc ?_ (by simp) _)
theorem operands_51 (w:World):Calls Tryz.prog 218 #[.int .i64 51] w (OpsOut w 1 0 0):=by
 go_enter Tryz.func218,Tryz.ntmps218
 go_wp2_with (go_at_call 276;refine (fields_51 _).mono ?_;rintro e w' ⟨rfl,rfl⟩)
 refine bodyPost_ret (v:= .agg #[.int .i64 1, .int .i64 0, .int .i64 0]) (by simp[results,Tryz.results218,go_sem]) rfl ⟨rfl,?_⟩
 repeat (first|exact Below.refl _ _|refine Below.setCell ?_ (by simp) _|refine Below.alloc ?_ (by simp) _)
theorem operands_52 (w:World):Calls Tryz.prog 218 #[.int .i64 52] w (OpsOut w 1 0 0):=by
 go_enter Tryz.func218,Tryz.ntmps218
 go_wp2_with (go_at_call 276;refine (fields_52 _).mono ?_;rintro e w' ⟨rfl,rfl⟩)
 refine bodyPost_ret (v:= .agg #[.int .i64 1, .int .i64 0, .int .i64 0]) (by simp[results,Tryz.results218,go_sem]) rfl ⟨rfl,?_⟩
 repeat (first|exact Below.refl _ _|refine Below.setCell ?_ (by simp) _|refine Below.alloc ?_ (by simp) _)
theorem operands_53 (w:World):Calls Tryz.prog 218 #[.int .i64 53] w (OpsOut w 1 0 0):=by
 go_enter Tryz.func218,Tryz.ntmps218
 go_wp2_with (go_at_call 276;refine (fields_53 _).mono ?_;rintro e w' ⟨rfl,rfl⟩)
 refine bodyPost_ret (v:= .agg #[.int .i64 1, .int .i64 0, .int .i64 0]) (by simp[results,Tryz.results218,go_sem]) rfl ⟨rfl,?_⟩
 repeat (first|exact Below.refl _ _|refine Below.setCell ?_ (by simp) _|refine Below.alloc ?_ (by simp) _)
theorem operands_54 (w:World):Calls Tryz.prog 218 #[.int .i64 54] w (OpsOut w 1 2 0):=by
 go_enter Tryz.func218,Tryz.ntmps218
 go_wp2_with (go_at_call 276;refine (fields_54 _).mono ?_;rintro e w' ⟨rfl,rfl⟩)
 refine bodyPost_ret (v:= .agg #[.int .i64 1, .int .i64 2, .int .i64 0]) (by simp[results,Tryz.results218,go_sem]) rfl ⟨rfl,?_⟩
 repeat (first|exact Below.refl _ _|refine Below.setCell ?_ (by simp) _|refine Below.alloc ?_ (by simp) _)
theorem operands_55 (w:World):Calls Tryz.prog 218 #[.int .i64 55] w (OpsOut w 0 0 0):=by
 go_enter Tryz.func218,Tryz.ntmps218
 go_wp2_with (go_at_call 276;refine (fields_55 _).mono ?_;rintro e w' ⟨rfl,rfl⟩)
 refine bodyPost_ret (v:= .agg #[.int .i64 0, .int .i64 0, .int .i64 0]) (by simp[results,Tryz.results218,go_sem]) rfl ⟨rfl,?_⟩
 repeat (first|exact Below.refl _ _|refine Below.setCell ?_ (by simp) _|refine Below.alloc ?_ (by simp) _)
theorem operands_56 (w:World):Calls Tryz.prog 218 #[.int .i64 56] w (OpsOut w 0 0 0):=by
 go_enter Tryz.func218,Tryz.ntmps218
 go_wp2_with (go_at_call 276;refine (fields_56 _).mono ?_;rintro e w' ⟨rfl,rfl⟩)
 refine bodyPost_ret (v:= .agg #[.int .i64 0, .int .i64 0, .int .i64 0]) (by simp[results,Tryz.results218,go_sem]) rfl ⟨rfl,?_⟩
 repeat (first|exact Below.refl _ _|refine Below.setCell ?_ (by simp) _|refine Below.alloc ?_ (by simp) _)
theorem operands_57 (w:World):Calls Tryz.prog 218 #[.int .i64 57] w (OpsOut w 1 0 0):=by
 go_enter Tryz.func218,Tryz.ntmps218
 go_wp2_with (go_at_call 276;refine (fields_57 _).mono ?_;rintro e w' ⟨rfl,rfl⟩)
 refine bodyPost_ret (v:= .agg #[.int .i64 1, .int .i64 0, .int .i64 0]) (by simp[results,Tryz.results218,go_sem]) rfl ⟨rfl,?_⟩
 repeat (first|exact Below.refl _ _|refine Below.setCell ?_ (by simp) _|refine Below.alloc ?_ (by simp) _)
theorem operands_58 (w:World):Calls Tryz.prog 218 #[.int .i64 58] w (OpsOut w 0 0 0):=by
 go_enter Tryz.func218,Tryz.ntmps218
 go_wp2_with (go_at_call 276;refine (fields_58 _).mono ?_;rintro e w' ⟨rfl,rfl⟩)
 refine bodyPost_ret (v:= .agg #[.int .i64 0, .int .i64 0, .int .i64 0]) (by simp[results,Tryz.results218,go_sem]) rfl ⟨rfl,?_⟩
 repeat (first|exact Below.refl _ _|refine Below.setCell ?_ (by simp) _|refine Below.alloc ?_ (by simp) _)
theorem operands_any (op:Int) (h1:1≤op) (h2:op≤58) (w:World): ∃k0 k1 k2,Calls Tryz.prog 218 #[.int .i64 op] w (OpsOut w k0 k1 k2)∧ [k0,k1,k2].takeWhile (fun k=>decide (k≠0))=kindsL op:=by
 obtain rfl|rfl|rfl|rfl|rfl|rfl|rfl|rfl|rfl|rfl|rfl|rfl|rfl|rfl|rfl|rfl|rfl|rfl|rfl|rfl|rfl|rfl|rfl|rfl|rfl|rfl|rfl|rfl|rfl|rfl|rfl|rfl|rfl|rfl|rfl|rfl|rfl|rfl|rfl|rfl|rfl|rfl|rfl|rfl|rfl|rfl|rfl|rfl|rfl|rfl|rfl|rfl|rfl|rfl|rfl|rfl|rfl|rfl:op=1∨op=2∨op=3∨op=4∨op=5∨op=6∨op=7∨op=8∨op=9∨op=10∨op=11∨op=12∨op=13∨op=14∨op=15∨op=16∨op=17∨op=18∨op=19∨op=20∨op=21∨op=22∨op=23∨op=24∨op=25∨op=26∨op=27∨op=28∨op=29∨op=30∨op=31∨op=32∨op=33∨op=34∨op=35∨op=36∨op=37∨op=38∨op=39∨op=40∨op=41∨op=42∨op=43∨op=44∨op=45∨op=46∨op=47∨op=48∨op=49∨op=50∨op=51∨op=52∨op=53∨op=54∨op=55∨op=56∨op=57∨op=58:=by omega
 ·exact ⟨_,_,_,operands_1 w,by decide⟩
 ·exact ⟨_,_,_,operands_2 w,by decide⟩
 ·exact ⟨_,_,_,operands_3 w,by decide⟩
 ·exact ⟨_,_,_,operands_4 w,by decide⟩
 ·exact ⟨_,_,_,operands_5 w,by decide⟩
 ·exact ⟨_,_,_,operands_6 w,by decide⟩
 ·exact ⟨_,_,_,operands_7 w,by decide⟩
 ·exact ⟨_,_,_,operands_8 w,by decide⟩
 ·exact ⟨_,_,_,operands_9 w,by decide⟩
 ·exact ⟨_,_,_,operands_10 w,by decide⟩
 ·exact ⟨_,_,_,operands_11 w,by decide⟩
 ·exact ⟨_,_,_,operands_12 w,by decide⟩
 ·exact ⟨_,_,_,operands_13 w,by decide⟩
 ·exact ⟨_,_,_,operands_14 w,by decide⟩
 ·exact ⟨_,_,_,operands_15 w,by decide⟩
 ·exact ⟨_,_,_,operands_16 w,by decide⟩
 ·exact ⟨_,_,_,operands_17 w,by decide⟩
 ·exact ⟨_,_,_,operands_18 w,by decide⟩
 ·exact ⟨_,_,_,operands_19 w,by decide⟩
 ·exact ⟨_,_,_,operands_20 w,by decide⟩
 ·exact ⟨_,_,_,operands_21 w,by decide⟩
 ·exact ⟨_,_,_,operands_22 w,by decide⟩
 ·exact ⟨_,_,_,operands_23 w,by decide⟩
 ·exact ⟨_,_,_,operands_24 w,by decide⟩
 ·exact ⟨_,_,_,operands_25 w,by decide⟩
 ·exact ⟨_,_,_,operands_26 w,by decide⟩
 ·exact ⟨_,_,_,operands_27 w,by decide⟩
 ·exact ⟨_,_,_,operands_28 w,by decide⟩
 ·exact ⟨_,_,_,operands_29 w,by decide⟩
 ·exact ⟨_,_,_,operands_30 w,by decide⟩
 ·exact ⟨_,_,_,operands_31 w,by decide⟩
 ·exact ⟨_,_,_,operands_32 w,by decide⟩
 ·exact ⟨_,_,_,operands_33 w,by decide⟩
 ·exact ⟨_,_,_,operands_34 w,by decide⟩
 ·exact ⟨_,_,_,operands_35 w,by decide⟩
 ·exact ⟨_,_,_,operands_36 w,by decide⟩
 ·exact ⟨_,_,_,operands_37 w,by decide⟩
 ·exact ⟨_,_,_,operands_38 w,by decide⟩
 ·exact ⟨_,_,_,operands_39 w,by decide⟩
 ·exact ⟨_,_,_,operands_40 w,by decide⟩
 ·exact ⟨_,_,_,operands_41 w,by decide⟩
 ·exact ⟨_,_,_,operands_42 w,by decide⟩
 ·exact ⟨_,_,_,operands_43 w,by decide⟩
 ·exact ⟨_,_,_,operands_44 w,by decide⟩
 ·exact ⟨_,_,_,operands_45 w,by decide⟩
 ·exact ⟨_,_,_,operands_46 w,by decide⟩
 ·exact ⟨_,_,_,operands_47 w,by decide⟩
 ·exact ⟨_,_,_,operands_48 w,by decide⟩
 ·exact ⟨_,_,_,operands_49 w,by decide⟩
 ·exact ⟨_,_,_,operands_50 w,by decide⟩
 ·exact ⟨_,_,_,operands_51 w,by decide⟩
 ·exact ⟨_,_,_,operands_52 w,by decide⟩
 ·exact ⟨_,_,_,operands_53 w,by decide⟩
 ·exact ⟨_,_,_,operands_54 w,by decide⟩
 ·exact ⟨_,_,_,operands_55 w,by decide⟩
 ·exact ⟨_,_,_,operands_56 w,by decide⟩
 ·exact ⟨_,_,_,operands_57 w,by decide⟩
 ·exact ⟨_,_,_,operands_58 w,by decide⟩
end Go.Proofs.YtaangaogmnlljaaGreatDoor.Asm
