/- Part 24 of what the proof stands on: RefOps. -/
import Derived.Test.YtdlpmnmenhojfaaGreatDoorR18
set_option linter.unusedVariables false
set_option maxHeartbeats 40000000
set_option maxRecDepth 100000
variable {zP:Prop}
namespace Go.Proofs.YtdlpmnmenhojfaaGreatDoor
open Go.IntKind renaming i64->Z,u64->J
open Go.Value renaming int->E,pointer->Y,slice->Sl
open Option renaming none->O,some->V
open Go.Obj renaming cells->Ce
open Go.Ending renaming returned->Rt
open Go.Proofs.Tryz renaming prog->Tp
namespace Asm
open Go.RowKit Go.Maps
def za0 (k:Int):Int:=if k=1 then 0 else if k=2 then 1 else if k=3 then 2 else if k=4 then 4 else if k=5 then 3 else if k=6 then 5 else if k=7 then 7 else if k=8 then 6 else 8
def zd6 (a b c v nb nc p i:Bool):Value:= .agg #[.bool a, .bool b, .bool c, .bool v, .bool nb, .bool nc, .bool p, .bool i]
def zwd (w:World) (x:Value) (e:Ending) (w':World):Prop:=e= .returned x∧Below w.heap.size w w'
def vP (w:World) (ks:List Int) (e:Ending) (w':World):Prop:= ∃v,e= .returned v∧w'.ownsRow w.heap.size 3 1 v ks.length (ks.map fun k=> E Z k)∧Below w.heap.size w w'
theorem ztu:(Tryz.prog.info? 3).map (fun i=>(i.zero,i.size,i.bytes))=V (some (E Z 0),1,8):=Y4
theorem zsh (w:World) (ks:List Int) (h:ks.length≤100):(w.alloc (Ce (ks.map fun k=>(E Z k:Value)).toArray 3)).ownsRow w.heap.size 3 1 (Sl (V ⟨w.heap.size,0,O⟩) ks.length ks.length) ks.length (ks.map fun k=> E Z k):=
 ⟨by simp, .inr ⟨_,ks.length,(ks.map fun k=>(E Z k:Value)).toArray,rfl,Nat.le_refl _,heap_alloc_new w _,Nat.le_refl _,by unfold maxLen;omega,by simp,by rw[Nat.mul_one];exact List.take_of_length_le Y7⟩⟩
abbrev Kc (n:Int) (a b c v nb nc p:Bool) (w:World):Prop:=Calls Tp 132 #[E Z n] w (zwd w (zd6 a b c v nb nc p true))
abbrev Zh (n:Int) (x:Bool):Prop:= ∀w,Calls Tp 133 #[E Z n] w fun e w'=>e=Rt (.bool x)∧w=w'
theorem KN {n:Int} {a b c v nb nc p:Bool} {w:World} (h:Kc n a b c v nb nc p w:=by
  go_enter Tryz.func132,Tryz.ntmps132
  go_wp2
  refine bodyPost_ret (v:=zd6 _ _ _ _ _ _ _ _) ?_ ?_ ⟨rfl,?_⟩
  ·simp[results,Tryz.results132,go_sem,zd6]
  ·rfl
  repeat (first|exact Below.refl _ _|refine Below.setCell ?_ Y7 _|refine Below.alloc ?_ Y7 _)):Kc n a b c v nb nc p w:=h
theorem Zq {n:Int} {x:Bool} (h:Zh n x:=by
  intro w
  go_enter Tryz.func133,Tryz.ntmps133
  go_wp2
  go_ret
  exact ⟨rfl,rfl⟩):Zh n x:=h
theorem zgG {n:Int} {l:List Int} {w:World} (h:Calls Tp 72 #[E Z n] w (vP w l):=by
  go_enter Tryz.func72,Tryz.ntmps72
  go_wp2
  go_ret
  exact ⟨_,rfl,zsh w _ Y2,(Below.refl _ _).alloc (Nat.le_refl _) _⟩):Calls Tp 72 #[E Z n] w (vP w l):=h
theorem zz1 (w:World):Kc 2 true true false false false false false w:=KN
theorem zot:Zh 2 false:=Zq
theorem zAg (w:World):Kc 3 true true true true false true false w:=KN
theorem zn7:Zh 3 false:=Zq
theorem zzs (w:World):Kc 4 true true true true false true false w:=KN
theorem zoS:Zh 4 false:=Zq
theorem zAs (w:World):Kc 5 true true true true false true false w:=KN
theorem zqx:Zh 5 false:=Zq
theorem zAj (w:World):Kc 6 true true true true false true false w:=KN
theorem zqg:Zh 6 false:=Zq
theorem zzK (w:World):Kc 7 true true true true false true false w:=KN
theorem zpM:Zh 7 false:=Zq
theorem zzx (w:World):Kc 8 true true true true false true false w:=KN
theorem zoA:Zh 8 false:=Zq
theorem zzT (w:World):Kc 9 true true true true false true false w:=KN
theorem zqm:Zh 9 false:=Zq
theorem zvS (w:World):Kc 10 true true true true false true false w:=KN
theorem zkw:Zh 10 false:=Zq
theorem zxu (w:World):Kc 11 true true true true false true false w:=KN
theorem zm4:Zh 11 false:=Zq
theorem zwH (w:World):Kc 16 false false false false false false false w:=KN
theorem zne:Zh 16 false:=Zq
theorem zyt (w:World):Kc 17 true true false true true false false w:=KN
theorem zkx:Zh 17 true:=Zq
theorem zxx (w:World):Kc 18 true true false true true false false w:=KN
theorem zlI:Zh 18 true:=Zq
theorem zwC (w:World):Kc 19 true true false true true false false w:=KN
theorem zm8:Zh 19 true:=Zq
theorem zwF (w:World):Kc 20 true true false true true false false w:=KN
theorem zna:Zh 20 true:=Zq
theorem zw5 (w:World):Kc 21 true true true true true false false w:=KN
theorem zlS:Zh 21 true:=Zq
theorem zxD (w:World):Kc 23 true true false false false false false w:=KN
theorem zlQ:Zh 23 false:=Zq
theorem zv2 (w:World):Kc 24 true true true false false false false w:=KN
theorem znj:Zh 24 false:=Zq
theorem zwO (w:World):Kc 25 true true true false false false false w:=KN
theorem zlx:Zh 25 false:=Zq
theorem zv3 (w:World):Kc 26 true true true false false false false w:=KN
theorem zlg:Zh 26 false:=Zq
theorem zxF (w:World):Kc 27 true true true false false false false w:=KN
theorem zli:Zh 27 false:=Zq
theorem zyy (w:World):Kc 28 true false false false false false false w:=KN
theorem zkY:Zh 28 false:=Zq
theorem zxr (w:World):Kc 29 true false false false false false false w:=KN
theorem zkL:Zh 29 false:=Zq
theorem zyi (w:World):Kc 30 true false false false false false false w:=KN
theorem zlw:Zh 30 false:=Zq
theorem zwJ (w:World):Kc 31 true true false true true false false w:=KN
theorem zlB:Zh 31 true:=Zq
theorem zx9 (w:World):Kc 32 true true true true true false false w:=KN
theorem zkM:Zh 32 true:=Zq
theorem zwL (w:World):Kc 33 false false false false false false false w:=KN
theorem zlF:Zh 33 false:=Zq
theorem zyk (w:World):Kc 34 true false false false false false false w:=KN
theorem zlp:Zh 34 false:=Zq
theorem zxS (w:World):Kc 35 true false false false false false false w:=KN
theorem zlE:Zh 35 false:=Zq
theorem zyc (w:World):Kc 36 true false false false false false false w:=KN
theorem zkE:Zh 36 false:=Zq
theorem zyD (w:World):Kc 37 true false false false false false false w:=KN
theorem zkB:Zh 37 false:=Zq
theorem zyJ (w:World):Kc 38 true false false false false false false w:=KN
theorem zl4:Zh 38 false:=Zq
theorem zxk (w:World):Kc 39 true true false false false false false w:=KN
theorem zkt:Zh 39 false:=Zq
theorem zwy (w:World):Kc 40 true false false false false false false w:=KN
theorem zmR:Zh 40 false:=Zq
theorem zyA (w:World):Kc 41 true false false false false false false w:=KN
theorem zly:Zh 41 false:=Zq
theorem zwG (w:World):Kc 42 true false false false false false false w:=KN
theorem zmI:Zh 42 false:=Zq
theorem zwm (w:World):Kc 44 true false false false false false false w:=KN
theorem zlt:Zh 44 false:=Zq
theorem zxg (w:World):Kc 46 true false false false false false false w:=KN
theorem zni:Zh 46 false:=Zq
theorem zvO (w:World):Kc 47 true true false false false false false w:=KN
theorem zmQ:Zh 47 false:=Zq
theorem zw1 (w:World):Kc 48 true true true false false false false w:=KN
theorem zk6:Zh 48 false:=Zq
theorem zw0 (w:World):Kc 49 true true false false false false false w:=KN
theorem znl:Zh 49 false:=Zq
theorem zxt (w:World):Kc 50 true true false false false false false w:=KN
theorem zlR:Zh 50 false:=Zq
theorem zxi (w:World):Kc 51 true false false false false false false w:=KN
theorem zkv:Zh 51 false:=Zq
theorem zxM (w:World):Kc 52 true false false false false false false w:=KN
theorem zlX:Zh 52 false:=Zq
theorem zyo (w:World):Kc 53 true false false false false false false w:=KN
theorem zkP:Zh 53 false:=Zq
theorem zyx (w:World):Kc 54 true true false false false false false w:=KN
theorem zlq:Zh 54 false:=Zq
theorem zwr (w:World):Kc 55 false false false false false false false w:=KN
theorem zmU:Zh 55 false:=Zq
theorem zxd (w:World):Kc 56 false false false false false false false w:=KN
theorem zk4:Zh 56 false:=Zq
theorem zxh (w:World):Kc 57 true false false false false false false w:=KN
theorem zls:Zh 57 false:=Zq
theorem zwf (w:World):Kc 58 false false false false false false false w:=KN
theorem zmN:Zh 58 false:=Zq
theorem zvv (w:World):Calls Tp 72 #[E Z 1] w (vP w [0,8]):=zgG
theorem zsF (w:World):Calls Tp 72 #[E Z 12] w (vP w [6]):=zgG
theorem zrm (w:World):Calls Tp 72 #[E Z 15] w (vP w [6]):=zgG
theorem zsw (w:World):Calls Tp 72 #[E Z 13] w (vP w [0,6]):=zgG
theorem zsp (w:World):Calls Tp 72 #[E Z 14] w (vP w [0,6]):=zgG
theorem zrH (w:World):Calls Tp 72 #[E Z 22] w (vP w [7]):=zgG
theorem zsx (w:World):Calls Tp 72 #[E Z 43] w (vP w [0,3]):=zgG
theorem zsY (w:World):Calls Tp 72 #[E Z 45] w (vP w [0,1,7]):=zgG
theorem zrA {w:World} {k:Nat} {o:Obj} (h:w.heap[k]?=some o):k<w.heap.size:=(Array.getElem?_eq_some_iff.1 h).1
structure RS (w wa:World) (S:Nat) (a b c v nb nc p:Bool) (row:Value) (n:Nat) (xs:List Value):Prop where
 sh:wa.heap[S]?=V (.cells #[.bool a, .bool b, .bool c, .bool v, .bool nb, .bool nc, .bool p, .bool true] 281 (0,0))
 bd:Below w.heap.size w wa
 own:wa.ownsRow w.heap.size 3 1 row n xs
 few:n≤9
theorem GN (a b c v nb nc p:Bool) {w w1:World} (h:Below w.heap.size w w1): ∃S wa,S=w1.heap.size∧wa=w1.alloc (Ce #[.bool a, .bool b, .bool c, .bool v, .bool nb, .bool nc, .bool p, .bool true] 281)∧RS w wa S a b c v nb nc p (Sl none 0 0) 0 []:=
 ⟨_,_,rfl,rfl,heap_alloc_new w1 _,h.alloc h.size _,World.ownsRow_nil _ _ _ _,by omega⟩
theorem RS.cell {w wa:World} {S:Nat} {a b c v nb nc p:Bool} {row:Value} {n:Nat} {xs:List Value} (H:RS w wa S a b c v nb nc p row n xs):wa.cell? ⟨S,0,O⟩=V (.bool a)∧wa.cell? ⟨S,1,O⟩=V (.bool b)∧wa.cell? ⟨S,2,O⟩=V (.bool c)∧wa.cell? ⟨S,5,O⟩=V (.bool nc):=by
 refine ⟨?_,?_,?_,?_⟩<;>simp[World.cell?,H.sh]
theorem JD {ops:Array Oper} {rest:List Oper} {o:Oper} {ac:Act} {Q:Exit→Act→World→Prop} (hgd:o.guard=none) (s x:Operand)
  (ho:o.op= .call { callee:= .builtin .append,args:=#[s,x],argTypes:=#[76,76]})
  {w wa:World} {S:Nat} {a b c v nb nc p:Bool} {row:Value} {n:Nat} {xs:List Value} {k:Int} (H:RS w wa S a b c v nb nc p row n xs) (hn:n≤8)
  (hs:ac.eval s=row) (hx:ac.eval x=Sl (V ⟨wa.heap.size,0,O⟩) 1 1)
  (h: ∀A c' wb,RS w wb S a b c v nb nc p (.slice A (n+1) c') (n+1) (xs++ [E Z k])→wpList Tp ops Q rest (ac.put o.dst (.slice A (n+1) c')) wb):
  wpList Tp ops Q (o::rest) ac (wa.alloc (Ce #[E Z k] 3)):=by
 obtain ⟨ii,hii,hzi,hsi,hbi⟩:=info_parts ztu;have Ta:S<wa.heap.size:=zrA H.sh;have hlb:=H.bd.size;have au:=H.own.alloc (Ce #[E Z k] 3);have aj:w.heap.size≤(wa.alloc (Ce #[E Z k] 3)).heap.size:=Y8;refine wpList_append_own_at _ hgd s x 76 ho w.heap.size 3 ii _ 1 8 Tryz.underlying76 hii hzi hsi hbi rfl Y2 _ _ _ hs au ⟨wa.heap.size,0,O⟩ 1 1 [E Z k] hx rfl ?_ ?_ Y24 Y1 aj ?_
 ·exact cell_one_new _ _ _
 ·intro u hu;rw[List.mem_singleton] at hu;subst hu;rfl
 ·intro v' w8 hown hg _ hnew;obtain ⟨A,c',rfl⟩:=zn hown;have hq:wa.heap[S]?=(wa.alloc (Ce #[E Z k] 3)).heap[S]?:=(((Below.refl _ wa).alloc (Nat.le_refl _) (.cells #[E Z k] 3)).block S Ta).symm;have ht:=hq.symm.trans H.sh;exact h A c' w8 ⟨(hg.block S Y8 (own_ne au (Vj ht) Y2)).trans ht,(H.bd.alloc hlb _).grown hg aj (fun j e=>(au.lt j e).1),hown,by omega⟩
def za4 (op:Int):Prop:=(op==1)=false∧(op==12)=false∧(op==15)=false∧(op==13)=false∧(op==14)=false∧(op==22)=false∧(op==43)=false∧(op==45)=false
theorem a61.Q17 (h:zP:=by
 obtain ⟨S,wa,hS,qN,H⟩:=GN false false false v nb false p aL.out;rw[←hS,←qN];clear hS qN aL;exact J46):zP:=h
open a61 in
theorem za5 (op:Int) (v nb p:Bool) (w:World) (hOf:Kc op false false false v nb false p w) (hCell:Zh op false) (hns:za4 op:=by exact ⟨rfl,rfl,rfl,rfl,rfl,rfl,rfl,rfl⟩):
  Calls Tp 72 #[E Z op] w (vP w []):=by
 exact J17
theorem a62.Q17 (h:zP:=by
 obtain ⟨S,wa,hS,qN,H⟩:=GN true false false v nb false p aL.out;exact J22):zP:=h
theorem a62.Q22 (h:zP:=by
 exact J53):zP:=h
open a62 in
theorem Vy (op:Int) (v nb p:Bool) (w:World) (hOf:Kc op true false false v nb false p w) (hCell:Zh op false) (hns:za4 op:=by exact ⟨rfl,rfl,rfl,rfl,rfl,rfl,rfl,rfl⟩):
  Calls Tp 72 #[E Z op] w (vP w [0]):=by
 exact J17
theorem a63.Q17 (h:zP:=by
 obtain ⟨S,wa,hS,qN,H⟩:=GN true true false v nb false p aL.out;exact J22):zP:=h
theorem a63.Q22 (h:zP:=by
 go_upto_region 24 with (first|(go_at_call 133;refine (dR.out _).mono ?_;rintro e w' ⟨rfl,rfl⟩) |(at_builtin;refine JD rfl (.tmp 40) (.tmp 41) rfl H Y2 rfl rfl ?_;clear H;intro A1 c1 wb1 H))
 exact J46):zP:=h
open a63 in
theorem GQ (op:Int) (v nb p:Bool) (w:World) (hOf:Kc op true true false v nb false p w) (hCell:Zh op false) (hns:za4 op:=by exact ⟨rfl,rfl,rfl,rfl,rfl,rfl,rfl,rfl⟩):
  Calls Tp 72 #[E Z op] w (vP w [0,1]):=by
 exact J17
theorem a64.Q17 (h:zP:=by
 obtain ⟨S,wa,hS,qN,H⟩:=GN true true true v nb false p aL.out;exact J22):zP:=h
theorem a64.Q22 (h:zP:=by
 exact J57):zP:=h
theorem a64.Q57 (h:zP:=by
 exact J94):zP:=h
open a64 in
theorem Ba (op:Int) (v nb p:Bool) (w:World) (hOf:Kc op true true true v nb false p w) (hCell:Zh op false) (hns:za4 op:=by exact ⟨rfl,rfl,rfl,rfl,rfl,rfl,rfl,rfl⟩):
  Calls Tp 72 #[E Z op] w (vP w [0,1,2]):=by
 exact J17
theorem a65.Q17 (h:zP:=by
 obtain ⟨S,wa,hS,qN,H⟩:=GN true true true v nb true p aL.out;exact J22):zP:=h
theorem a65.Q22 (h:zP:=by
 exact J57):zP:=h
theorem a65.Q57 (h:zP:=by
 go_wp2_with (first|(go_at_call 133;refine (dR.out _).mono ?_;rintro e w' ⟨rfl,rfl⟩) |(at_builtin;refine JD rfl (.tmp 45) (.tmp 46) rfl H Y2 rfl rfl ?_;clear H;intro A2 c2 wb2 H));go_ret;exact ⟨_,rfl,H.own,H.bd⟩):zP:=h
open a65 in
theorem VP (op:Int) (v nb p:Bool) (w:World) (hOf:Kc op true true true v nb true p w) (hCell:Zh op false) (hns:za4 op:=by exact ⟨rfl,rfl,rfl,rfl,rfl,rfl,rfl,rfl⟩):
  Calls Tp 72 #[E Z op] w (vP w [0,1,4]):=by
 exact J17
theorem a66.Q17 (h:zP:=by
 obtain ⟨S,wa,hS,qN,H⟩:=GN true true false v nb false p aL.out;exact J22):zP:=h
theorem a66.Q22 (h:zP:=by
 exact zwT):zP:=h
theorem a66.zyd (h:zP:=by
 exact J46):zP:=h
open a66 in
theorem Jl (op:Int) (v nb p:Bool) (w:World) (hOf:Kc op true true false v nb false p w) (hCell:Zh op true) (hns:za4 op:=by exact ⟨rfl,rfl,rfl,rfl,rfl,rfl,rfl,rfl⟩):
  Calls Tp 72 #[E Z op] w (vP w [0,5]):=by
 exact J17
theorem a67.Q17 (h:zP:=by
 obtain ⟨S,wa,hS,qN,H⟩:=GN true true true v nb false p aL.out;exact J22):zP:=h
theorem a67.Q22 (h:zP:=by
 exact zwT):zP:=h
theorem a67.zyd (h:zP:=by
 obtain ⟨s0,s1,s2,s5⟩:=H.cell;exact J94):zP:=h
open a67 in
theorem zfA (op:Int) (v nb p:Bool) (w:World) (hOf:Kc op true true true v nb false p w) (hCell:Zh op true) (hns:za4 op:=by exact ⟨rfl,rfl,rfl,rfl,rfl,rfl,rfl,rfl⟩):
  Calls Tp 72 #[E Z op] w (vP w [0,5,2]):=by
 exact J17
theorem znH (op:Int) (h1:1≤op) (h2:op≤58) (w:World):Calls Tp 72 #[E Z op] w (vP w ((Zk op).map za0)):=by
 obtain rfl|rfl|rfl|rfl|rfl|rfl|rfl|rfl|rfl|rfl|rfl|rfl|rfl|rfl|rfl|rfl|rfl|rfl|rfl|rfl|rfl|rfl|rfl|rfl|rfl|rfl|rfl|rfl|rfl|rfl|rfl|rfl|rfl|rfl|rfl|rfl|rfl|rfl|rfl|rfl|rfl|rfl|rfl|rfl|rfl|rfl|rfl|rfl|rfl|rfl|rfl|rfl|rfl|rfl|rfl|rfl|rfl|rfl:op=1∨op=2∨op=3∨op=4∨op=5∨op=6∨op=7∨op=8∨op=9∨op=10∨op=11∨op=12∨op=13∨op=14∨op=15∨op=16∨op=17∨op=18∨op=19∨op=20∨op=21∨op=22∨op=23∨op=24∨op=25∨op=26∨op=27∨op=28∨op=29∨op=30∨op=31∨op=32∨op=33∨op=34∨op=35∨op=36∨op=37∨op=38∨op=39∨op=40∨op=41∨op=42∨op=43∨op=44∨op=45∨op=46∨op=47∨op=48∨op=49∨op=50∨op=51∨op=52∨op=53∨op=54∨op=55∨op=56∨op=57∨op=58:=Y1
 ·exact zvv w
 ·exact GQ 2 false false false w (zz1 w) zot
 ·exact VP 3 true false false w (zAg w) zn7
 ·exact VP 4 true false false w (zzs w) zoS
 ·exact VP 5 true false false w (zAs w) zqx
 ·exact VP 6 true false false w (zAj w) zqg
 ·exact VP 7 true false false w (zzK w) zpM
 ·exact VP 8 true false false w (zzx w) zoA
 ·exact VP 9 true false false w (zzT w) zqm
 ·exact VP 10 true false false w (zvS w) zkw
 ·exact VP 11 true false false w (zxu w) zm4
 ·exact zsF w
 ·exact zsw w
 ·exact zsp w
 ·exact zrm w
 ·exact za5 16 false false false w (zwH w) zne
 ·exact Jl 17 true true false w (zyt w) zkx
 ·exact Jl 18 true true false w (zxx w) zlI
 ·exact Jl 19 true true false w (zwC w) zm8
 ·exact Jl 20 true true false w (zwF w) zna
 ·exact zfA 21 true true false w (zw5 w) zlS
 ·exact zrH w
 ·exact GQ 23 false false false w (zxD w) zlQ
 ·exact Ba 24 false false false w (zv2 w) znj
 ·exact Ba 25 false false false w (zwO w) zlx
 ·exact Ba 26 false false false w (zv3 w) zlg
 ·exact Ba 27 false false false w (zxF w) zli
 ·exact Vy 28 false false false w (zyy w) zkY
 ·exact Vy 29 false false false w (zxr w) zkL
 ·exact Vy 30 false false false w (zyi w) zlw
 ·exact Jl 31 true true false w (zwJ w) zlB
 ·exact zfA 32 true true false w (zx9 w) zkM
 ·exact za5 33 false false false w (zwL w) zlF
 ·exact Vy 34 false false false w (zyk w) zlp
 ·exact Vy 35 false false false w (zxS w) zlE
 ·exact Vy 36 false false false w (zyc w) zkE
 ·exact Vy 37 false false false w (zyD w) zkB
 ·exact Vy 38 false false false w (zyJ w) zl4
 ·exact GQ 39 false false false w (zxk w) zkt
 ·exact Vy 40 false false false w (zwy w) zmR
 ·exact Vy 41 false false false w (zyA w) zly
 ·exact Vy 42 false false false w (zwG w) zmI
 ·exact zsx w
 ·exact Vy 44 false false false w (zwm w) zlt
 ·exact zsY w
 ·exact Vy 46 false false false w (zxg w) zni
 ·exact GQ 47 false false false w (zvO w) zmQ
 ·exact Ba 48 false false false w (zw1 w) zk6
 ·exact GQ 49 false false false w (zw0 w) znl
 ·exact GQ 50 false false false w (zxt w) zlR
 ·exact Vy 51 false false false w (zxi w) zkv
 ·exact Vy 52 false false false w (zxM w) zlX
 ·exact Vy 53 false false false w (zyo w) zkP
 ·exact GQ 54 false false false w (zyx w) zlq
 ·exact za5 55 false false false w (zwr w) zmU
 ·exact za5 56 false false false w (zxd w) zk4
 ·exact Vy 57 false false false w (zxh w) zls
 ·exact za5 58 false false false w (zwf w) zmN
end Asm
end Go.Proofs.YtdlpmnmenhojfaaGreatDoor
