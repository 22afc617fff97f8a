/- Part 27 of what the proof stands on: RefOps. -/
import Derived.Test.YtaangaogmnlljaaGreatDoorP19
set_option linter.unusedVariables false
set_option maxRecDepth 100000
set_option maxHeartbeats 40000000
namespace Go.Proofs.YtaangaogmnlljaaGreatDoor.Asm
open Go.RowKit Go.Maps
def rkind (k:Int):Int:=if k=1 then 0 else if k=2 then 1 else if k=3 then 2 else if k=4 then 4 else if k=5 then 3 else if k=6 then 5 else if k=7 then 7 else if k=8 then 6 else 8
def shapeV (a b c v nb nc p i:Bool):Value:= .agg #[.bool a, .bool b, .bool c, .bool v, .bool nb, .bool nc, .bool p, .bool i]
def OfOut (w:World) (x:Value) (e:Ending) (w':World):Prop:=e= .returned x∧Below w.heap.size w w'
def RopsOut (w:World) (ks:List Int) (e:Ending) (w':World):Prop:= ∃v,e= .returned v∧w'.ownsRow w.heap.size 3 1 v ks.length (ks.map fun k=> .int .i64 k)∧Below w.heap.size w w'
theorem infoI:(Tryz.prog.info? 3).map (fun i=>(i.zero,i.size,i.bytes))=some (some (.int .i64 0),1,8):=by kernel_rfl
theorem lit_row (w:World) (ks:List Int) (h:ks.length≤100):(w.alloc (.cells (ks.map fun k=>(.int .i64 k:Value)).toArray 3)).ownsRow w.heap.size 3 1 (.slice (some ⟨w.heap.size,0,none⟩) ks.length ks.length) ks.length (ks.map fun k=> .int .i64 k):=
 ⟨by simp, .inr ⟨_,ks.length,(ks.map fun k=>(.int .i64 k:Value)).toArray,rfl,Nat.le_refl _,heap_alloc_new w _,Nat.le_refl _,by unfold maxLen;omega,by simp,by rw[Nat.mul_one];exact List.take_of_length_le (by simp)⟩⟩
abbrev OfS (n:Int) (a b c v nb nc p:Bool) (w:World):Prop:=Calls Tryz.prog 264 #[.int .i64 n] w (OfOut w (shapeV a b c v nb nc p true))
abbrev CellS (n:Int) (x:Bool):Prop:= ∀w,Calls Tryz.prog 283 #[.int .i64 n] w fun e w'=>e= .returned (.bool x)∧w=w'
theorem ofx {n:Int} {a b c v nb nc p:Bool} {w:World} (h:OfS n a b c v nb nc p w:=by
  go_enter Tryz.func264,Tryz.ntmps264
  go_wp2
  refine bodyPost_ret (v:=shapeV _ _ _ _ _ _ _ _) ?_ ?_ ⟨rfl,?_⟩
  ·simp[results,Tryz.results264,go_sem,shapeV]
  ·rfl
  repeat (first|exact Below.refl _ _|refine Below.setCell ?_ (by simp) _|refine Below.alloc ?_ (by simp) _)):OfS n a b c v nb nc p w:=h
theorem cellx {n:Int} {x:Bool} (h:CellS n x:=by
  intro w
  go_enter Tryz.func283,Tryz.ntmps283
  go_wp2
  go_ret
  exact ⟨rfl,rfl⟩):CellS n x:=h
theorem ropx {n:Int} {l:List Int} {w:World} (h:Calls Tryz.prog 232 #[.int .i64 n] w (RopsOut w l):=by
  go_enter Tryz.func232,Tryz.ntmps232
  go_wp2
  go_ret
  exact ⟨_,rfl,lit_row w _ (by decide),(Below.refl _ _).alloc (Nat.le_refl _) _⟩):Calls Tryz.prog 232 #[.int .i64 n] w (RopsOut w l):=h
theorem of_2 (w:World):OfS 2 true true false false false false false w:=ofx
theorem isCell_2:CellS 2 false:=cellx
theorem of_3 (w:World):OfS 3 true true true true false true false w:=ofx
theorem isCell_3:CellS 3 false:=cellx
theorem of_4 (w:World):OfS 4 true true true true false true false w:=ofx
theorem isCell_4:CellS 4 false:=cellx
theorem of_5 (w:World):OfS 5 true true true true false true false w:=ofx
theorem isCell_5:CellS 5 false:=cellx
theorem of_6 (w:World):OfS 6 true true true true false true false w:=ofx
theorem isCell_6:CellS 6 false:=cellx
theorem of_7 (w:World):OfS 7 true true true true false true false w:=ofx
theorem isCell_7:CellS 7 false:=cellx
theorem of_8 (w:World):OfS 8 true true true true false true false w:=ofx
theorem isCell_8:CellS 8 false:=cellx
theorem of_9 (w:World):OfS 9 true true true true false true false w:=ofx
theorem isCell_9:CellS 9 false:=cellx
theorem of_10 (w:World):OfS 10 true true true true false true false w:=ofx
theorem isCell_10:CellS 10 false:=cellx
theorem of_11 (w:World):OfS 11 true true true true false true false w:=ofx
theorem isCell_11:CellS 11 false:=cellx
theorem of_16 (w:World):OfS 16 false false false false false false false w:=ofx
theorem isCell_16:CellS 16 false:=cellx
theorem of_17 (w:World):OfS 17 true true false true true false false w:=ofx
theorem isCell_17:CellS 17 true:=cellx
theorem of_18 (w:World):OfS 18 true true false true true false false w:=ofx
theorem isCell_18:CellS 18 true:=cellx
theorem of_19 (w:World):OfS 19 true true false true true false false w:=ofx
theorem isCell_19:CellS 19 true:=cellx
theorem of_20 (w:World):OfS 20 true true false true true false false w:=ofx
theorem isCell_20:CellS 20 true:=cellx
theorem of_21 (w:World):OfS 21 true true true true true false false w:=ofx
theorem isCell_21:CellS 21 true:=cellx
theorem of_23 (w:World):OfS 23 true true false false false false false w:=ofx
theorem isCell_23:CellS 23 false:=cellx
theorem of_24 (w:World):OfS 24 true true true false false false false w:=ofx
theorem isCell_24:CellS 24 false:=cellx
theorem of_25 (w:World):OfS 25 true true true false false false false w:=ofx
theorem isCell_25:CellS 25 false:=cellx
theorem of_26 (w:World):OfS 26 true true true false false false false w:=ofx
theorem isCell_26:CellS 26 false:=cellx
theorem of_27 (w:World):OfS 27 true true true false false false false w:=ofx
theorem isCell_27:CellS 27 false:=cellx
theorem of_28 (w:World):OfS 28 true false false false false false false w:=ofx
theorem isCell_28:CellS 28 false:=cellx
theorem of_29 (w:World):OfS 29 true false false false false false false w:=ofx
theorem isCell_29:CellS 29 false:=cellx
theorem of_30 (w:World):OfS 30 true false false false false false false w:=ofx
theorem isCell_30:CellS 30 false:=cellx
theorem of_31 (w:World):OfS 31 true true false true true false false w:=ofx
theorem isCell_31:CellS 31 true:=cellx
theorem of_32 (w:World):OfS 32 true true true true true false false w:=ofx
theorem isCell_32:CellS 32 true:=cellx
theorem of_33 (w:World):OfS 33 false false false false false false false w:=ofx
theorem isCell_33:CellS 33 false:=cellx
theorem of_34 (w:World):OfS 34 true false false false false false false w:=ofx
theorem isCell_34:CellS 34 false:=cellx
theorem of_35 (w:World):OfS 35 true false false false false false false w:=ofx
theorem isCell_35:CellS 35 false:=cellx
theorem of_36 (w:World):OfS 36 true false false false false false false w:=ofx
theorem isCell_36:CellS 36 false:=cellx
theorem of_37 (w:World):OfS 37 true false false false false false false w:=ofx
theorem isCell_37:CellS 37 false:=cellx
theorem of_38 (w:World):OfS 38 true false false false false false false w:=ofx
theorem isCell_38:CellS 38 false:=cellx
theorem of_39 (w:World):OfS 39 true true false false false false false w:=ofx
theorem isCell_39:CellS 39 false:=cellx
theorem of_40 (w:World):OfS 40 true false false false false false false w:=ofx
theorem isCell_40:CellS 40 false:=cellx
theorem of_41 (w:World):OfS 41 true false false false false false false w:=ofx
theorem isCell_41:CellS 41 false:=cellx
theorem of_42 (w:World):OfS 42 true false false false false false false w:=ofx
theorem isCell_42:CellS 42 false:=cellx
theorem of_44 (w:World):OfS 44 true false false false false false false w:=ofx
theorem isCell_44:CellS 44 false:=cellx
theorem of_46 (w:World):OfS 46 true false false false false false false w:=ofx
theorem isCell_46:CellS 46 false:=cellx
theorem of_47 (w:World):OfS 47 true true false false false false false w:=ofx
theorem isCell_47:CellS 47 false:=cellx
theorem of_48 (w:World):OfS 48 true true true false false false false w:=ofx
theorem isCell_48:CellS 48 false:=cellx
theorem of_49 (w:World):OfS 49 true true false false false false false w:=ofx
theorem isCell_49:CellS 49 false:=cellx
theorem of_50 (w:World):OfS 50 true true false false false false false w:=ofx
theorem isCell_50:CellS 50 false:=cellx
theorem of_51 (w:World):OfS 51 true false false false false false false w:=ofx
theorem isCell_51:CellS 51 false:=cellx
theorem of_52 (w:World):OfS 52 true false false false false false false w:=ofx
theorem isCell_52:CellS 52 false:=cellx
theorem of_53 (w:World):OfS 53 true false false false false false false w:=ofx
theorem isCell_53:CellS 53 false:=cellx
theorem of_54 (w:World):OfS 54 true true false false false false false w:=ofx
theorem isCell_54:CellS 54 false:=cellx
theorem of_55 (w:World):OfS 55 false false false false false false false w:=ofx
theorem isCell_55:CellS 55 false:=cellx
theorem of_56 (w:World):OfS 56 false false false false false false false w:=ofx
theorem isCell_56:CellS 56 false:=cellx
theorem of_57 (w:World):OfS 57 true false false false false false false w:=ofx
theorem isCell_57:CellS 57 false:=cellx
theorem of_58 (w:World):OfS 58 false false false false false false false w:=ofx
theorem isCell_58:CellS 58 false:=cellx
theorem rops_1 (w:World):Calls Tryz.prog 232 #[.int .i64 1] w (RopsOut w [0,8]):=ropx
theorem rops_12 (w:World):Calls Tryz.prog 232 #[.int .i64 12] w (RopsOut w [6]):=ropx
theorem rops_15 (w:World):Calls Tryz.prog 232 #[.int .i64 15] w (RopsOut w [6]):=ropx
theorem rops_13 (w:World):Calls Tryz.prog 232 #[.int .i64 13] w (RopsOut w [0,6]):=ropx
theorem rops_14 (w:World):Calls Tryz.prog 232 #[.int .i64 14] w (RopsOut w [0,6]):=ropx
theorem rops_22 (w:World):Calls Tryz.prog 232 #[.int .i64 22] w (RopsOut w [7]):=ropx
theorem rops_43 (w:World):Calls Tryz.prog 232 #[.int .i64 43] w (RopsOut w [0,3]):=ropx
theorem rops_45 (w:World):Calls Tryz.prog 232 #[.int .i64 45] w (RopsOut w [0,1,7]):=ropx
theorem blk_lt2 {w:World} {k:Nat} {o:Obj} (h:w.heap[k]?=some o):k<w.heap.size:=(Array.getElem?_eq_some_iff.1 h).1
structure RS (w wa:World) (S:Nat) (a b c v nb nc p:Bool) (row:Value) (n:Nat) (xs:List Value):Prop where
 sh:wa.heap[S]?=some (.cells #[.bool a, .bool b, .bool c, .bool v, .bool nb, .bool nc, .bool p, .bool true] 478 (0,0))
 bd:Below w.heap.size w wa
 own:wa.ownsRow w.heap.size 3 1 row n xs
 few:n≤9
theorem rs_init (a b c v nb nc p:Bool) {w w1:World} (h:Below w.heap.size w w1): ∃S wa,S=w1.heap.size∧wa=w1.alloc (.cells #[.bool a, .bool b, .bool c, .bool v, .bool nb, .bool nc, .bool p, .bool true] 478)∧RS w wa S a b c v nb nc p (.slice none 0 0) 0 []:=
 ⟨_,_,rfl,rfl,heap_alloc_new w1 _,h.alloc h.size _,World.ownsRow_nil _ _ _ _,by omega⟩
theorem RS.cell {w wa:World} {S:Nat} {a b c v nb nc p:Bool} {row:Value} {n:Nat} {xs:List Value} (H:RS w wa S a b c v nb nc p row n xs):wa.cell? ⟨S,0,none⟩=some (.bool a)∧wa.cell? ⟨S,1,none⟩=some (.bool b)∧wa.cell? ⟨S,2,none⟩=some (.bool c)∧wa.cell? ⟨S,5,none⟩=some (.bool nc):=by
 refine ⟨?_,?_,?_,?_⟩<;>simp[World.cell?,H.sh]
theorem rs_app {ops:Array Oper} {rest:List Oper} {o:Oper} {ac:Act} {Q:Exit→Act→World→Prop} (hgd:o.guard=none) (s x:Operand)
  (ho:o.op= .call { callee:= .builtin .append,args:=#[s,x],argTypes:=#[89,89]})
  {w wa:World} {S:Nat} {a b c v nb nc p:Bool} {row:Value} {n:Nat} {xs:List Value} {k:Int} (H:RS w wa S a b c v nb nc p row n xs) (hn:n≤8)
  (hs:ac.eval s=row) (hx:ac.eval x= .slice (some ⟨wa.heap.size,0,none⟩) 1 1)
  (h: ∀A c' wb,RS w wb S a b c v nb nc p (.slice A (n+1) c') (n+1) (xs++ [.int .i64 k])→wpList Tryz.prog ops Q rest (ac.put o.dst (.slice A (n+1) c')) wb):
  wpList Tryz.prog ops Q (o::rest) ac (wa.alloc (.cells #[.int .i64 k] 3)):=by
 obtain ⟨ii,hii,hzi,hsi,hbi⟩:=info_parts infoI
 have hlS:S<wa.heap.size:=blk_lt2 H.sh
 have hlb:=H.bd.size
 have E:=H.own.alloc (.cells #[.int .i64 k] 3)
 have Z:w.heap.size≤(wa.alloc (.cells #[.int .i64 k] 3)).heap.size:=by simp;omega
 refine wpList_append_own_at _ hgd s x 89 ho w.heap.size 3 ii _ 1 8 Tryz.underlying89 hii hzi hsi hbi rfl (by decide) _ _ _ hs E ⟨wa.heap.size,0,none⟩ 1 1 [.int .i64 k] hx rfl ?_ ?_ (by unfold maxLen;omega) (by omega) Z ?_
 ·exact cell_one_new _ _ _
 ·intro u hu
  rw[List.mem_singleton] at hu;subst hu;rfl
 ·intro v' w8 hown hg _ hnew
  obtain ⟨A,c',rfl⟩:=own_shape hown
  have hq:wa.heap[S]?=(wa.alloc (.cells #[.int .i64 k] 3)).heap[S]?:=(((Below.refl _ wa).alloc (Nat.le_refl _) (.cells #[.int .i64 k] 3)).block S hlS).symm
  have ht:=hq.symm.trans H.sh
  exact h A c' w8 ⟨(hg.block S (by simp;omega) (own_ne E (tag_cells ht) (by decide))).trans ht,(H.bd.alloc hlb _).grown hg Z (fun j e=>(E.lt j e).1),hown,by omega⟩
def NotSp (op:Int):Prop:=(op==1)=false∧(op==12)=false∧(op==15)=false∧(op==13)=false∧(op==14)=false∧(op==22)=false∧(op==43)=false∧(op==45)=false
theorem a53.q13 {P:Prop} (h:P:=by
 obtain ⟨S,wa,hS,hwa,H⟩:=rs_init false false false v nb false p HB1.out
 rw[←hS,←hwa]
 clear hS hwa HB1
 exact m33):P:=h
open a53 in
theorem rgen_0 (op:Int) (v nb p:Bool) (w:World) (hOf:OfS op false false false v nb false p w) (hCell:CellS op false) (hns:NotSp op:=by exact ⟨rfl,rfl,rfl,rfl,rfl,rfl,rfl,rfl⟩):
  Calls Tryz.prog 232 #[.int .i64 op] w (RopsOut w []):=by
 exact m13
theorem a54.q13 {P:Prop} (h:P:=by
 obtain ⟨S,wa,hS,hwa,H⟩:=rs_init true false false v nb false p HB1.out
 exact m15):P:=h
theorem a54.q15 {P:Prop} (h:P:=by
 exact m39):P:=h
open a54 in
theorem rgen_A (op:Int) (v nb p:Bool) (w:World) (hOf:OfS op true false false v nb false p w) (hCell:CellS op false) (hns:NotSp op:=by exact ⟨rfl,rfl,rfl,rfl,rfl,rfl,rfl,rfl⟩):
  Calls Tryz.prog 232 #[.int .i64 op] w (RopsOut w [0]):=by
 exact m13
theorem a55.q13 {P:Prop} (h:P:=by
 obtain ⟨S,wa,hS,hwa,H⟩:=rs_init true true false v nb false p HB1.out
 exact m15):P:=h
theorem a55.q15 {P:Prop} (h:P:=by
 go_upto_region 24 with (first|(go_at_call 283;refine (HCell.out _).mono ?_;rintro e w' ⟨rfl,rfl⟩) |(at_builtin;refine rs_app rfl (.tmp 40) (.tmp 41) rfl H (by decide) rfl rfl ?_;clear H;intro A1 c1 wb1 H))
 exact m33):P:=h
open a55 in
theorem rgen_AB (op:Int) (v nb p:Bool) (w:World) (hOf:OfS op true true false v nb false p w) (hCell:CellS op false) (hns:NotSp op:=by exact ⟨rfl,rfl,rfl,rfl,rfl,rfl,rfl,rfl⟩):
  Calls Tryz.prog 232 #[.int .i64 op] w (RopsOut w [0,1]):=by
 exact m13
theorem a56.q13 {P:Prop} (h:P:=by
 obtain ⟨S,wa,hS,hwa,H⟩:=rs_init true true true v nb false p HB1.out
 exact m15):P:=h
theorem a56.q15 {P:Prop} (h:P:=by
 exact m49):P:=h
theorem a56.q49 {P:Prop} (h:P:=by
 exact m69):P:=h
open a56 in
theorem rgen_ABC (op:Int) (v nb p:Bool) (w:World) (hOf:OfS op true true true v nb false p w) (hCell:CellS op false) (hns:NotSp op:=by exact ⟨rfl,rfl,rfl,rfl,rfl,rfl,rfl,rfl⟩):
  Calls Tryz.prog 232 #[.int .i64 op] w (RopsOut w [0,1,2]):=by
 exact m13
theorem a57.q13 {P:Prop} (h:P:=by
 obtain ⟨S,wa,hS,hwa,H⟩:=rs_init true true true v nb true p HB1.out
 exact m15):P:=h
theorem a57.q15 {P:Prop} (h:P:=by
 exact m49):P:=h
theorem a57.q49 {P:Prop} (h:P:=by
 go_wp2_with (first|(go_at_call 283;refine (HCell.out _).mono ?_;rintro e w' ⟨rfl,rfl⟩) |(at_builtin;refine rs_app rfl (.tmp 45) (.tmp 46) rfl H (by decide) rfl rfl ?_;clear H;intro A2 c2 wb2 H))
 go_ret
 exact ⟨_,rfl,H.own,H.bd⟩):P:=h
open a57 in
theorem rgen_ABCn (op:Int) (v nb p:Bool) (w:World) (hOf:OfS op true true true v nb true p w) (hCell:CellS op false) (hns:NotSp op:=by exact ⟨rfl,rfl,rfl,rfl,rfl,rfl,rfl,rfl⟩):
  Calls Tryz.prog 232 #[.int .i64 op] w (RopsOut w [0,1,4]):=by
 exact m13
theorem a58.q13 {P:Prop} (h:P:=by
 obtain ⟨S,wa,hS,hwa,H⟩:=rs_init true true false v nb false p HB1.out
 exact m15):P:=h
theorem a58.q15 {P:Prop} (h:P:=by
 go_upto_region 24 with (first|(go_at_call 283;refine (HCell.out _).mono ?_;rintro e w' ⟨rfl,rfl⟩) |(at_builtin;refine rs_app rfl (.tmp 35) (.tmp 36) rfl H (by decide) rfl rfl ?_;clear H;intro A1 c1 wb1 H))
 exact m33):P:=h
open a58 in
theorem rgen_Ac (op:Int) (v nb p:Bool) (w:World) (hOf:OfS op true true false v nb false p w) (hCell:CellS op true) (hns:NotSp op:=by exact ⟨rfl,rfl,rfl,rfl,rfl,rfl,rfl,rfl⟩):
  Calls Tryz.prog 232 #[.int .i64 op] w (RopsOut w [0,5]):=by
 exact m13
theorem a59.q13 {P:Prop} (h:P:=by
 obtain ⟨S,wa,hS,hwa,H⟩:=rs_init true true true v nb false p HB1.out
 exact m15):P:=h
theorem a59.q15 {P:Prop} (h:P:=by
 go_upto_region 24 with (first|(go_at_call 283;refine (HCell.out _).mono ?_;rintro e w' ⟨rfl,rfl⟩) |(at_builtin;refine rs_app rfl (.tmp 35) (.tmp 36) rfl H (by decide) rfl rfl ?_;clear H;intro A1 c1 wb1 H))
 obtain ⟨s0,s1,s2,s5⟩:=H.cell
 exact m69):P:=h
open a59 in
theorem rgen_AcC (op:Int) (v nb p:Bool) (w:World) (hOf:OfS op true true true v nb false p w) (hCell:CellS op true) (hns:NotSp op:=by exact ⟨rfl,rfl,rfl,rfl,rfl,rfl,rfl,rfl⟩):
  Calls Tryz.prog 232 #[.int .i64 op] w (RopsOut w [0,5,2]):=by
 exact m13
theorem rops_any (op:Int) (h1:1≤op) (h2:op≤58) (w:World):Calls Tryz.prog 232 #[.int .i64 op] w (RopsOut w ((kindsL op).map rkind)):=by
 obtain rfl|rfl|rfl|rfl|rfl|rfl|rfl|rfl|rfl|rfl|rfl|rfl|rfl|rfl|rfl|rfl|rfl|rfl|rfl|rfl|rfl|rfl|rfl|rfl|rfl|rfl|rfl|rfl|rfl|rfl|rfl|rfl|rfl|rfl|rfl|rfl|rfl|rfl|rfl|rfl|rfl|rfl|rfl|rfl|rfl|rfl|rfl|rfl|rfl|rfl|rfl|rfl|rfl|rfl|rfl|rfl|rfl|rfl:op=1∨op=2∨op=3∨op=4∨op=5∨op=6∨op=7∨op=8∨op=9∨op=10∨op=11∨op=12∨op=13∨op=14∨op=15∨op=16∨op=17∨op=18∨op=19∨op=20∨op=21∨op=22∨op=23∨op=24∨op=25∨op=26∨op=27∨op=28∨op=29∨op=30∨op=31∨op=32∨op=33∨op=34∨op=35∨op=36∨op=37∨op=38∨op=39∨op=40∨op=41∨op=42∨op=43∨op=44∨op=45∨op=46∨op=47∨op=48∨op=49∨op=50∨op=51∨op=52∨op=53∨op=54∨op=55∨op=56∨op=57∨op=58:=by omega
 ·exact rops_1 w
 ·exact rgen_AB 2 false false false w (of_2 w) isCell_2
 ·exact rgen_ABCn 3 true false false w (of_3 w) isCell_3
 ·exact rgen_ABCn 4 true false false w (of_4 w) isCell_4
 ·exact rgen_ABCn 5 true false false w (of_5 w) isCell_5
 ·exact rgen_ABCn 6 true false false w (of_6 w) isCell_6
 ·exact rgen_ABCn 7 true false false w (of_7 w) isCell_7
 ·exact rgen_ABCn 8 true false false w (of_8 w) isCell_8
 ·exact rgen_ABCn 9 true false false w (of_9 w) isCell_9
 ·exact rgen_ABCn 10 true false false w (of_10 w) isCell_10
 ·exact rgen_ABCn 11 true false false w (of_11 w) isCell_11
 ·exact rops_12 w
 ·exact rops_13 w
 ·exact rops_14 w
 ·exact rops_15 w
 ·exact rgen_0 16 false false false w (of_16 w) isCell_16
 ·exact rgen_Ac 17 true true false w (of_17 w) isCell_17
 ·exact rgen_Ac 18 true true false w (of_18 w) isCell_18
 ·exact rgen_Ac 19 true true false w (of_19 w) isCell_19
 ·exact rgen_Ac 20 true true false w (of_20 w) isCell_20
 ·exact rgen_AcC 21 true true false w (of_21 w) isCell_21
 ·exact rops_22 w
 ·exact rgen_AB 23 false false false w (of_23 w) isCell_23
 ·exact rgen_ABC 24 false false false w (of_24 w) isCell_24
 ·exact rgen_ABC 25 false false false w (of_25 w) isCell_25
 ·exact rgen_ABC 26 false false false w (of_26 w) isCell_26
 ·exact rgen_ABC 27 false false false w (of_27 w) isCell_27
 ·exact rgen_A 28 false false false w (of_28 w) isCell_28
 ·exact rgen_A 29 false false false w (of_29 w) isCell_29
 ·exact rgen_A 30 false false false w (of_30 w) isCell_30
 ·exact rgen_Ac 31 true true false w (of_31 w) isCell_31
 ·exact rgen_AcC 32 true true false w (of_32 w) isCell_32
 ·exact rgen_0 33 false false false w (of_33 w) isCell_33
 ·exact rgen_A 34 false false false w (of_34 w) isCell_34
 ·exact rgen_A 35 false false false w (of_35 w) isCell_35
 ·exact rgen_A 36 false false false w (of_36 w) isCell_36
 ·exact rgen_A 37 false false false w (of_37 w) isCell_37
 ·exact rgen_A 38 false false false w (of_38 w) isCell_38
 ·exact rgen_AB 39 false false false w (of_39 w) isCell_39
 ·exact rgen_A 40 false false false w (of_40 w) isCell_40
 ·exact rgen_A 41 false false false w (of_41 w) isCell_41
 ·exact rgen_A 42 false false false w (of_42 w) isCell_42
 ·exact rops_43 w
 ·exact rgen_A 44 false false false w (of_44 w) isCell_44
 ·exact rops_45 w
 ·exact rgen_A 46 false false false w (of_46 w) isCell_46
 ·exact rgen_AB 47 false false false w (of_47 w) isCell_47
 ·exact rgen_ABC 48 false false false w (of_48 w) isCell_48
 ·exact rgen_AB 49 false false false w (of_49 w) isCell_49
 ·exact rgen_AB 50 false false false w (of_50 w) isCell_50
 ·exact rgen_A 51 false false false w (of_51 w) isCell_51
 ·exact rgen_A 52 false false false w (of_52 w) isCell_52
 ·exact rgen_A 53 false false false w (of_53 w) isCell_53
 ·exact rgen_AB 54 false false false w (of_54 w) isCell_54
 ·exact rgen_0 55 false false false w (of_55 w) isCell_55
 ·exact rgen_0 56 false false false w (of_56 w) isCell_56
 ·exact rgen_A 57 false false false w (of_57 w) isCell_57
 ·exact rgen_0 58 false false false w (of_58 w) isCell_58
end Go.Proofs.YtaangaogmnlljaaGreatDoor.Asm
