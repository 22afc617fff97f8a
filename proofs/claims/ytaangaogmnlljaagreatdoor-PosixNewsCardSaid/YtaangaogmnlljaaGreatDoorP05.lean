/- Part 5 of what the proof stands on: AsmTx. -/
import Derived.Test.YtaangaogmnlljaaGreatDoorProg
import Derived.Test.YtaangaogmnlljaaGreatDoorP01
set_option linter.unusedVariables false
set_option maxHeartbeats 40000000
namespace Go.Proofs.YtaangaogmnlljaaGreatDoor.Asm
open Go.RowKit
def opStr (o:Oper):Option ByteArray:=match o.op with| .assign (.const (.string b))=>some b|_=>none
def textIn:Code→ByteArray
 | .seq _ (.seq (.region _ ops _) _)=>((ops.toList.head?).bind opStr).getD ⟨#[]⟩
 |_=>⟨#[]⟩
def textOf (f:Func):ByteArray:=match f.body with|some c=>textIn c|none=>⟨#[]⟩
noncomputable def layers:List Func:= [Tryz.f148,Tryz.f149,Tryz.f150,Tryz.f151,Tryz.f152,Tryz.f153,Tryz.f154,Tryz.f155,Tryz.f156,Tryz.f157]
noncomputable def textL:Str:=layers.flatMap fun f=>(textOf f).data.toList
def linesAux:Str→Str→List Str
 |w,[]=> [w]
 |w,c::s=>if c=10 then w::linesAux [] s else linesAux (w++ [c]) s
def linesL (s:Str):List Str:=linesAux [] s
theorem text_len:textL.length=10376:=by decide+kernel
end Go.Proofs.YtaangaogmnlljaaGreatDoor.Asm
namespace Go.Proofs.YtaangaogmnlljaaGreatDoor.Asm
open Go.RowKit
set_option maxRecDepth 1000000 in
theorem split_lines:Lib.split textL [10]=linesL textL:=by decide+kernel
set_option maxRecDepth 1000000 in
theorem lines_plain:((linesL textL).all fun l=>l.all (fun c=>c !=59)&&decide (l.length≤1000))=true:=by decide+kernel
set_option maxRecDepth 1000000 in
theorem lines_len:(linesL textL).length≤3000:=by decide+kernel
theorem wordsAux_len (s:Str): ∀cur:Str,(∀w∈wordsAux cur s,0<w.length∧w.length≤cur.length+s.length)∧(wordsAux cur s).length≤s.length+1:=by
 induction s with
 |nil=>
  intro cur
  unfold wordsAux
  by_cases h:cur= []
  ·simp[h]
  ·have:0<cur.length:=List.length_pos_iff.2 h
   simp[h]
   exact this
 |cons c s ih=>
  intro cur
  unfold wordsAux
  by_cases hc:c=32
  ·rw[if_pos hc]
   obtain ⟨h1,h2⟩:=ih []
   by_cases h:cur= []
   ·rw[if_pos h]
    refine ⟨fun w hw=>?_,by simp;omega⟩
    obtain ⟨a,b⟩:=h1 w hw
    simp at b
    exact ⟨a,by simp;omega⟩
   ·rw[if_neg h]
    have:0<cur.length:=List.length_pos_iff.2 h
    refine ⟨fun w hw=>?_,by simp;omega⟩
    rcases List.mem_cons.1 hw with rfl|hw
    ·exact ⟨this,by simp⟩
    ·obtain ⟨a,b⟩:=h1 w hw
     simp at b
     exact ⟨a,by simp;omega⟩
  ·rw[if_neg hc]
   obtain ⟨h1,h2⟩:=ih (cur++ [c])
   refine ⟨fun w hw=>?_,by simp;omega⟩
   obtain ⟨a,b⟩:=h1 w hw
   simp at b
   exact ⟨a,by simp;omega⟩
theorem words_len (s:Str):(∀w∈wordsL s,0<w.length∧w.length≤s.length)∧(wordsL s).length≤s.length+1:=by
 have:=wordsAux_len s []
 simpa[wordsL] using this
theorem opAux_range (s:Str): ∀(l:List Str) (n:Int),opAux s l n=0∨(n≤opAux s l n∧opAux s l n<n+l.length)
 |[],n=>Or.inl rfl
 |x::l,n=>by
  unfold opAux
  split
  ·right;simp;omega
  ·rcases opAux_range s l (n+1) with h|h
   ·exact Or.inl h
   ·right;simp;omega
theorem op_range (s:Str) (h:opL s≠0):1≤opL s∧opL s≤58:=by
 rcases opAux_range s opNames 1 with h2|h2
 ·exact absurd h2 h
 ·have e:opNames.length=58:=rfl
  unfold opL
  omega
theorem any_idx (l:List (Str×Nat)) (t:Str):l.any (fun p=>p.1==t)=(l.findIdx? fun p=>p.1==t).isSome:=by
 rw[Bool.eq_iff_iff,List.findIdx?_isSome]
theorem len_ite {p:Prop} [Decidable p] {a b:List Int} (ha:a.length≤3) (hb:b.length≤3):(if p then a else b).length≤3:=by
 split<;>assumption
theorem kinds_len (op:Int):(kindsL op).length≤3:=by
 unfold kindsL
 repeat (refine len_ite (by decide) ?_)
 decide
theorem operands_wants {ks:List Int}: ∀{x y:InsL} {ws lr:List Str},operandsL x ks ws=some (y,lr)→lr.length≤ks.length:=by
 induction ks with
 |nil=>
  intro x y ws lr h
  simp[operandsL] at h
  simp[h.2]
 |cons k ks ih=>
  intro x y ws lr h
  cases ws with
  |nil=>exact absurd h (by simp[operandsL])
  |cons s ss=>
   simp only[operandsL] at h
   split at h
   ·cases h
   ·rename_i y1 o _
    obtain ⟨⟨y2,l2⟩,h2,e⟩:=Option.map_eq_some_iff.1 h
    injection e with e1 e2
    have:=ih h2
    subst e2
    have:o.toList.length≤1:=by cases o<;>simp
    simp;omega
theorem step_len {st st':St} {i:Nat} {s:Str} (h:stepL st i s=some st'):st'.code.length≤st.code.length+1∧st'.labels.length≤st.labels.length+1∧st'.lines.length≤st.lines.length+1∧st'.wants.length≤st.wants.length+3:=by
 unfold stepL at h
 split at h
 ·cases h
 ·cases h;simp
 ·split at h
  ·cases h
  ·cases h;simp
 ·rename_i x l hl
  cases h
  have:l.length≤3:=by
   unfold lineL at hl
   split at hl
   ·cases hl
   ·split at hl
    ·split at hl<;>cases hl
    ·split at hl
     ·cases hl
     ·dsimp only at hl
      split at hl
      ·cases hl
      ·rename_i y lr ho
       have h1:=Nat.le_trans (operands_wants ho) (kinds_len _)
       split at hl
       ·cases hl;omega
       ·split at hl
        ·obtain ⟨z,_,e⟩:=Option.map_eq_some_iff.1 hl
         cases e;omega
        ·cases hl
  simp;omega
end Go.Proofs.YtaangaogmnlljaaGreatDoor.Asm
namespace Go.Proofs.YtaangaogmnlljaaGreatDoor.Asm
open Go.RowKit
set_option maxRecDepth 1000000 in
theorem text_deque (w:World):Calls Tryz.prog 148 #[] w fun e w'=>e= .returned (.string (textOf Tryz.f148))∧w=w':=by
 obtain ⟨B,hB⟩: ∃B,B=textOf Tryz.f148:=⟨_,rfl⟩
 rw[←hB]
 have HB:=Lib.hid hB
 clear hB
 go_enter Tryz.func148,Tryz.ntmps148
 go_wp2
 go_ret
 refine ⟨?_,rfl⟩
 rw[HB.out]
 kernel_rfl
set_option maxRecDepth 1000000 in
theorem text_loop (w:World):Calls Tryz.prog 149 #[] w fun e w'=>e= .returned (.string (textOf Tryz.f149))∧w=w':=by
 obtain ⟨B,hB⟩: ∃B,B=textOf Tryz.f149:=⟨_,rfl⟩
 rw[←hB]
 have HB:=Lib.hid hB
 clear hB
 go_enter Tryz.func149,Tryz.ntmps149
 go_wp2
 go_ret
 refine ⟨?_,rfl⟩
 rw[HB.out]
 kernel_rfl
set_option maxRecDepth 1000000 in
theorem text_futex (w:World):Calls Tryz.prog 150 #[] w fun e w'=>e= .returned (.string (textOf Tryz.f150))∧w=w':=by
 obtain ⟨B,hB⟩: ∃B,B=textOf Tryz.f150:=⟨_,rfl⟩
 rw[←hB]
 have HB:=Lib.hid hB
 clear hB
 go_enter Tryz.func150,Tryz.ntmps150
 go_wp2
 go_ret
 refine ⟨?_,rfl⟩
 rw[HB.out]
 kernel_rfl
set_option maxRecDepth 1000000 in
theorem text_life (w:World):Calls Tryz.prog 151 #[] w fun e w'=>e= .returned (.string (textOf Tryz.f151))∧w=w':=by
 obtain ⟨B,hB⟩: ∃B,B=textOf Tryz.f151:=⟨_,rfl⟩
 rw[←hB]
 have HB:=Lib.hid hB
 clear hB
 go_enter Tryz.func151,Tryz.ntmps151
 go_wp2
 go_ret
 refine ⟨?_,rfl⟩
 rw[HB.out]
 kernel_rfl
set_option maxRecDepth 1000000 in
theorem text_mutex (w:World):Calls Tryz.prog 152 #[] w fun e w'=>e= .returned (.string (textOf Tryz.f152))∧w=w':=by
 obtain ⟨B,hB⟩: ∃B,B=textOf Tryz.f152:=⟨_,rfl⟩
 rw[←hB]
 have HB:=Lib.hid hB
 clear hB
 go_enter Tryz.func152,Tryz.ntmps152
 go_wp2
 go_ret
 refine ⟨?_,rfl⟩
 rw[HB.out]
 kernel_rfl
set_option maxRecDepth 1000000 in
theorem text_sema (w:World):Calls Tryz.prog 153 #[] w fun e w'=>e= .returned (.string (textOf Tryz.f153))∧w=w':=by
 obtain ⟨B,hB⟩: ∃B,B=textOf Tryz.f153:=⟨_,rfl⟩
 rw[←hB]
 have HB:=Lib.hid hB
 clear hB
 go_enter Tryz.func153,Tryz.ntmps153
 go_wp2
 go_ret
 refine ⟨?_,rfl⟩
 rw[HB.out]
 kernel_rfl
set_option maxRecDepth 1000000 in
theorem text_once (w:World):Calls Tryz.prog 154 #[] w fun e w'=>e= .returned (.string (textOf Tryz.f154))∧w=w':=by
 obtain ⟨B,hB⟩: ∃B,B=textOf Tryz.f154:=⟨_,rfl⟩
 rw[←hB]
 have HB:=Lib.hid hB
 clear hB
 go_enter Tryz.func154,Tryz.ntmps154
 go_wp2
 go_ret
 refine ⟨?_,rfl⟩
 rw[HB.out]
 kernel_rfl
set_option maxRecDepth 1000000 in
theorem text_barrier (w:World):Calls Tryz.prog 155 #[] w fun e w'=>e= .returned (.string (textOf Tryz.f155))∧w=w':=by
 obtain ⟨B,hB⟩: ∃B,B=textOf Tryz.f155:=⟨_,rfl⟩
 rw[←hB]
 have HB:=Lib.hid hB
 clear hB
 go_enter Tryz.func155,Tryz.ntmps155
 go_wp2
 go_ret
 refine ⟨?_,rfl⟩
 rw[HB.out]
 kernel_rfl
set_option maxRecDepth 1000000 in
theorem text_rwlock (w:World):Calls Tryz.prog 156 #[] w fun e w'=>e= .returned (.string (textOf Tryz.f156))∧w=w':=by
 obtain ⟨B,hB⟩: ∃B,B=textOf Tryz.f156:=⟨_,rfl⟩
 rw[←hB]
 have HB:=Lib.hid hB
 clear hB
 go_enter Tryz.func156,Tryz.ntmps156
 go_wp2
 go_ret
 refine ⟨?_,rfl⟩
 rw[HB.out]
 kernel_rfl
set_option maxRecDepth 1000000 in
theorem text_cond (w:World):Calls Tryz.prog 157 #[] w fun e w'=>e= .returned (.string (textOf Tryz.f157))∧w=w':=by
 obtain ⟨B,hB⟩: ∃B,B=textOf Tryz.f157:=⟨_,rfl⟩
 rw[←hB]
 have HB:=Lib.hid hB
 clear hB
 go_enter Tryz.func157,Tryz.ntmps157
 go_wp2
 go_ret
 refine ⟨?_,rfl⟩
 rw[HB.out]
 kernel_rfl
theorem bytes_ext (a:ByteArray) (l:Str) (h:a.data.toList=l):a=⟨l.toArray⟩:=by
 cases a with
 |mk d=>simp at h;rw[←h]
theorem size_deque:(textOf Tryz.f148).size≤2000:=by decide+kernel
theorem size_loop:(textOf Tryz.f149).size≤2000:=by decide+kernel
theorem size_futex:(textOf Tryz.f150).size≤2000:=by decide+kernel
theorem size_life:(textOf Tryz.f151).size≤2000:=by decide+kernel
theorem size_mutex:(textOf Tryz.f152).size≤2000:=by decide+kernel
theorem size_sema:(textOf Tryz.f153).size≤2000:=by decide+kernel
theorem size_once:(textOf Tryz.f154).size≤2000:=by decide+kernel
theorem size_barrier:(textOf Tryz.f155).size≤2000:=by decide+kernel
theorem size_rwlock:(textOf Tryz.f156).size≤2000:=by decide+kernel
theorem size_cond:(textOf Tryz.f157).size≤2000:=by decide+kernel
theorem text_join:textOf Tryz.f148++textOf Tryz.f149++textOf Tryz.f150++textOf Tryz.f151++textOf Tryz.f152++textOf Tryz.f153++textOf Tryz.f154++textOf Tryz.f155++textOf Tryz.f156++textOf Tryz.f157=(⟨textL.toArray⟩:ByteArray):=by
 apply bytes_ext
 simp only[ByteArray.data_append,Array.toList_append]
 unfold textL layers
 simp only[List.flatMap_cons,List.flatMap_nil,List.append_nil,List.append_assoc]
theorem text_any (w:World):Calls Tryz.prog 72 #[] w fun e w'=>e= .returned (.string ⟨textL.toArray⟩)∧w=w':=by
 have HT:=Lib.hid text_join
 generalize textL=L at HT ⊢
 go_enter Tryz.func72,Tryz.ntmps72
 go_wp2_with fail
 refine (text_deque _).mono ?_
 rintro e w' ⟨rfl,rfl⟩
 have z0:=size_deque
 generalize textOf Tryz.f148=T0 at HT z0 ⊢
 go_wp2_with fail
 refine (text_loop _).mono ?_
 rintro e w' ⟨rfl,rfl⟩
 have z1:=size_loop
 generalize textOf Tryz.f149=T1 at HT z1 ⊢
 go_wp2_with fail
 refine (text_futex _).mono ?_
 rintro e w' ⟨rfl,rfl⟩
 have z2:=size_futex
 generalize textOf Tryz.f150=T2 at HT z2 ⊢
 go_wp2_with fail
 refine (text_life _).mono ?_
 rintro e w' ⟨rfl,rfl⟩
 have z3:=size_life
 generalize textOf Tryz.f151=T3 at HT z3 ⊢
 go_wp2_with fail
 refine (text_mutex _).mono ?_
 rintro e w' ⟨rfl,rfl⟩
 have z4:=size_mutex
 generalize textOf Tryz.f152=T4 at HT z4 ⊢
 go_wp2_with fail
 refine (text_sema _).mono ?_
 rintro e w' ⟨rfl,rfl⟩
 have z5:=size_sema
 generalize textOf Tryz.f153=T5 at HT z5 ⊢
 go_wp2_with fail
 refine (text_once _).mono ?_
 rintro e w' ⟨rfl,rfl⟩
 have z6:=size_once
 generalize textOf Tryz.f154=T6 at HT z6 ⊢
 go_wp2_with fail
 refine (text_barrier _).mono ?_
 rintro e w' ⟨rfl,rfl⟩
 have z7:=size_barrier
 generalize textOf Tryz.f155=T7 at HT z7 ⊢
 go_wp2_with fail
 refine (text_rwlock _).mono ?_
 rintro e w' ⟨rfl,rfl⟩
 have z8:=size_rwlock
 generalize textOf Tryz.f156=T8 at HT z8 ⊢
 go_wp2_with fail
 refine (text_cond _).mono ?_
 rintro e w' ⟨rfl,rfl⟩
 have z9:=size_cond
 generalize textOf Tryz.f157=T9 at HT z9 ⊢
 go_wp2
 go_ret
 exact ⟨by rw[←HT.out];rfl,rfl⟩
end Go.Proofs.YtaangaogmnlljaaGreatDoor.Asm
namespace Go.Proofs.YtaangaogmnlljaaGreatDoor.Asm
set_option maxRecDepth 1000000 in
theorem lib_sizes:((parseL (linesL textL)).map fun p=>decide (0<p.1.length)&& (decide (p.2.length≤3000)&&decide (p.1.length≤3000)))=some true:=by decide+kernel
theorem lib_is: ∃code labels,parseL (linesL textL)=some (code,labels)∧0<code.length∧code.length≤3000∧labels.length≤3000:=by
 obtain ⟨p,hp,e⟩:=Option.map_eq_some_iff.1 lib_sizes
 simp only[Bool.and_eq_true,decide_eq_true_eq] at e
 exact ⟨p.1,p.2,hp,e.1,e.2.2,e.2.1⟩
end Go.Proofs.YtaangaogmnlljaaGreatDoor.Asm
namespace Go.Proofs.YtaangaogmnlljaaGreatDoor.Asm
open Go.RowKit
theorem wp_world {P:Program} {c:Code} {Q:Exit→Act→World→Prop} {a:Act} {w w':World} (h:w=w') (h2:c.wp P Q a w'):c.wp P Q a w:=by rw[h];exact h2
noncomputable def textsV:Array Value:=(layers.map fun f=>Value.string (textOf f)).toArray
noncomputable def joinTo (k:Nat):Str:=(layers.take k).flatMap fun f=>(textOf f).data.toList
theorem layers_len:layers.length=10:=rfl
theorem join_size (k:Nat):(joinTo k).length≤10376:=by
 rw[←text_len]
 unfold joinTo textL
 refine List.Sublist.length_le ?_
 conv=>rhs;rw[←List.take_append_drop k layers,List.flatMap_append]
 exact List.sublist_append_left _ _
theorem join_all:joinTo 10=textL:=rfl
theorem join_succ (k:Nat) (hk:k<layers.length):(⟨(joinTo k).toArray⟩:ByteArray)++textOf layers[k]=⟨(joinTo (k+1)).toArray⟩:=by
 apply bytes_ext
 unfold joinTo
 rw[List.take_succ_eq_append_getElem hk,List.flatMap_append,ByteArray.data_append]
 simp
theorem size_at (k:Nat) (hk:k<layers.length):(textOf layers[k]).size≤2000:=by
 rw[layers_len] at hk
 match k,hk with
 |0,_=>exact size_deque
 |1,_=>exact size_loop
 |2,_=>exact size_futex
 |3,_=>exact size_life
 |4,_=>exact size_mutex
 |5,_=>exact size_sema
 |6,_=>exact size_once
 |7,_=>exact size_barrier
 |8,_=>exact size_rwlock
 |9,_=>exact size_cond
 |k+10,h=>omega
set_option maxRecDepth 1000000 in
theorem upto_any (w:World):Calls Tryz.prog 101 #[.int .i64 23] w fun e w'=>e= .returned (.string ⟨textL.toArray⟩)∧Below w.heap.size w w':=by
 go_enter Tryz.func101,Tryz.ntmps101
 go_wp2
 refine wp_world (w':=w.alloc (.cells textsV 9)) (by kernel_rfl) ?_
 obtain ⟨C,hC⟩: ∃C,C=textsV:=⟨_,rfl⟩
 rw[←hC]
 have hcell: ∀k (hk:k<layers.length),(w.alloc (.cells C 9)).cell? ⟨w.heap.size,k,none⟩=some (.string (textOf layers[k])):=by
  intro k hk
  rw[hC]
  refine (World.cell?_alloc_at _ _ _ _ rfl).trans ?_
  unfold textsV
  simp[hk]
 have HC:=Lib.hid hcell
 clear hC hcell
 have HB:Hid (Below w.heap.size w (w.alloc (.cells C 9))):=Lib.hid ((Below.refl _ _).alloc (Nat.le_refl _) _)
 generalize hW:w.alloc (.cells C 9)=w1 at HC HB ⊢
 clear hW
 go_loop [4,5] (fun sv iv=> ∃k:Nat,k≤10∧iv= .int .i64 k∧sv= .string ⟨(joinTo k).toArray⟩) (fun _ iv=>10 - (intOf iv).toNat)
 case atStart=>exact ⟨0,by omega,rfl,rfl⟩
 case round=>
  obtain ⟨k,hk,rfl,rfl⟩:=hrel
  have hkI:(k:Int)≤10:=by omega
  by_cases hlt:k<10
  ·have hltI:(k:Int)<10:=by omega
   have c0:=HC.out k (by rw[layers_len];exact hlt)
   have z0:=size_at k (by rw[layers_len];exact hlt)
   have z1:=join_size k
   have HJ:=Lib.hid (join_succ k (by rw[layers_len];exact hlt))
   have hd:decide (14+(k:Int)≤23)=true:=decide_eq_true (by omega)
   obtain ⟨J,hJ⟩: ∃J:ByteArray,J=⟨(joinTo k).toArray⟩:=⟨_,rfl⟩
   have z2:J.size≤10376:=by rw[hJ];exact z1
   rw[←hJ] at HJ ⊢
   generalize textOf (layers[k]'(by rw[layers_len];exact hlt))=T at c0 z0 HJ
   clear z1 hJ
   go_wp2
   go_round
   case rel=>exact ⟨k+1,by omega,by go_num,by rw[HJ.out]⟩
   case measure=>simp[intOf];omega
  ·obtain rfl:k=10:=by omega
   rw[join_all]
   go_wp2
   go_ret
   exact ⟨rfl,HB.out⟩
end Go.Proofs.YtaangaogmnlljaaGreatDoor.Asm
