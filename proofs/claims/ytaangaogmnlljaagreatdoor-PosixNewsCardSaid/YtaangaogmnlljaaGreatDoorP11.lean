/- Part 11 of what the proof stands on: PosT. -/
import Derived.Test.YtaangaogmnlljaaGreatDoorP04
set_option linter.unusedVariables false
set_option maxHeartbeats 40000000
namespace Go.Proofs.YtaangaogmnlljaaGreatDoor.PosTab
structure CRow where
 num:Int
 name:ByteArray
 routine:ByteArray
 layer:Int
 k0:Int
 k1:Int
 k2:Int
 k3:Int
def tab:List CRow:= [
 ⟨1,⟨#[99,114,101,97,116,101]⟩,⟨#[99,98,111,114,110]⟩,17,0,0,0,0⟩,
 ⟨2,⟨#[101,120,105,116]⟩,⟨#[99,101,120,105,116]⟩,17,0,0,0,0⟩,
 ⟨3,⟨#[106,111,105,110]⟩,⟨#[99,106,111,105,110]⟩,17,0,0,0,0⟩,
 ⟨4,⟨#[100,101,116,97,99,104]⟩,⟨#[99,108,111,111,115,101]⟩,17,0,0,0,0⟩,
 ⟨5,⟨#[115,101,108,102]⟩,⟨#[99,115,101,108,102]⟩,17,0,0,0,0⟩,
 ⟨6,⟨#[121,105,101,108,100]⟩,⟨#[99,121,105,101,108,100]⟩,17,0,0,0,0⟩,
 ⟨7,⟨#[115,108,101,101,112]⟩,⟨#[99,115,108,101,101,112]⟩,17,0,0,0,0⟩,
 ⟨8,⟨#[110,111,119]⟩,⟨#[99,110,111,119]⟩,17,0,0,0,0⟩,
 ⟨10,⟨#[109,117,116,101,120,32,105,110,105,116]⟩,⟨#[99,109,105,110,105,116]⟩,18,0,0,0,0⟩,
 ⟨11,⟨#[109,117,116,101,120,32,100,101,115,116,114,111,121]⟩,⟨#[99,109,103,111,110,101]⟩,18,1,0,0,0⟩,
 ⟨12,⟨#[109,117,116,101,120,32,108,111,99,107]⟩,⟨#[99,109,108,111,99,107]⟩,18,1,0,0,0⟩,
 ⟨13,⟨#[109,117,116,101,120,32,116,114,121,108,111,99,107]⟩,⟨#[99,109,116,114,121]⟩,18,1,0,0,0⟩,
 ⟨14,⟨#[109,117,116,101,120,32,116,105,109,101,100,108,111,99,107]⟩,⟨#[99,109,116,105,109,101,100]⟩,18,1,0,0,0⟩,
 ⟨15,⟨#[109,117,116,101,120,32,117,110,108,111,99,107]⟩,⟨#[99,109,102,114,101,101]⟩,18,1,0,0,0⟩,
 ⟨20,⟨#[115,101,109,32,105,110,105,116]⟩,⟨#[99,115,105,110,105,116]⟩,19,0,0,0,0⟩,
 ⟨21,⟨#[115,101,109,32,100,101,115,116,114,111,121]⟩,⟨#[99,115,103,111,110,101]⟩,19,2,0,0,0⟩,
 ⟨22,⟨#[115,101,109,32,119,97,105,116]⟩,⟨#[99,115,119,97,105,116]⟩,19,2,0,0,0⟩,
 ⟨23,⟨#[115,101,109,32,116,114,121,119,97,105,116]⟩,⟨#[99,115,116,114,121]⟩,19,2,0,0,0⟩,
 ⟨24,⟨#[115,101,109,32,116,105,109,101,100,119,97,105,116]⟩,⟨#[99,115,116,105,109,101,100]⟩,19,2,0,0,0⟩,
 ⟨25,⟨#[115,101,109,32,112,111,115,116]⟩,⟨#[99,115,112,111,115,116]⟩,19,2,0,0,0⟩,
 ⟨26,⟨#[115,101,109,32,103,101,116]⟩,⟨#[99,115,103,101,116]⟩,19,2,0,0,0⟩,
 ⟨30,⟨#[111,110,99,101,32,105,110,105,116]⟩,⟨#[99,111,105,110,105,116]⟩,20,0,0,0,0⟩,
 ⟨31,⟨#[111,110,99,101]⟩,⟨#[99,111,110,99,101]⟩,20,3,0,0,0⟩,
 ⟨40,⟨#[98,97,114,114,105,101,114,32,105,110,105,116]⟩,⟨#[99,98,105,110,105,116]⟩,21,0,0,0,0⟩,
 ⟨41,⟨#[98,97,114,114,105,101,114,32,100,101,115,116,114,111,121]⟩,⟨#[99,98,103,111,110,101]⟩,21,4,0,0,0⟩,
 ⟨42,⟨#[98,97,114,114,105,101,114,32,119,97,105,116]⟩,⟨#[99,98,119,97,105,116]⟩,21,4,0,0,0⟩,
 ⟨50,⟨#[114,119,108,111,99,107,32,105,110,105,116]⟩,⟨#[99,114,105,110,105,116]⟩,22,0,0,0,0⟩,
 ⟨51,⟨#[114,119,108,111,99,107,32,100,101,115,116,114,111,121]⟩,⟨#[99,114,103,111,110,101]⟩,22,5,0,0,0⟩,
 ⟨52,⟨#[114,119,108,111,99,107,32,114,101,97,100]⟩,⟨#[99,114,114,101,97,100]⟩,22,5,0,0,0⟩,
 ⟨53,⟨#[114,119,108,111,99,107,32,116,114,121,114,101,97,100]⟩,⟨#[99,114,116,114,121,114]⟩,22,5,0,0,0⟩,
 ⟨54,⟨#[114,119,108,111,99,107,32,116,105,109,101,100,114,101,97,100]⟩,⟨#[99,114,116,114,101,97,100]⟩,22,5,0,0,0⟩,
 ⟨55,⟨#[114,119,108,111,99,107,32,119,114,105,116,101]⟩,⟨#[99,114,119,114,105,116,101]⟩,22,5,0,0,0⟩,
 ⟨56,⟨#[114,119,108,111,99,107,32,116,114,121,119,114,105,116,101]⟩,⟨#[99,114,116,114,121,119]⟩,22,5,0,0,0⟩,
 ⟨57,⟨#[114,119,108,111,99,107,32,116,105,109,101,100,119,114,105,116,101]⟩,⟨#[99,114,116,119,114,105,116]⟩,22,5,0,0,0⟩,
 ⟨58,⟨#[114,119,108,111,99,107,32,117,110,108,111,99,107]⟩,⟨#[99,114,102,114,101,101]⟩,22,5,0,0,0⟩,
 ⟨60,⟨#[99,111,110,100,32,105,110,105,116]⟩,⟨#[99,99,105,110,105,116]⟩,23,0,0,0,0⟩,
 ⟨61,⟨#[99,111,110,100,32,100,101,115,116,114,111,121]⟩,⟨#[99,99,103,111,110,101]⟩,23,6,0,0,0⟩,
 ⟨62,⟨#[99,111,110,100,32,119,97,105,116]⟩,⟨#[99,99,119,97,105,116]⟩,23,6,1,0,0⟩,
 ⟨63,⟨#[99,111,110,100,32,116,105,109,101,100,119,97,105,116]⟩,⟨#[99,99,116,105,109,101,100]⟩,23,6,1,0,0⟩,
 ⟨64,⟨#[99,111,110,100,32,115,105,103,110,97,108]⟩,⟨#[99,99,115,105,103,110]⟩,23,6,0,0,0⟩,
 ⟨65,⟨#[99,111,110,100,32,98,114,111,97,100,99,97,115,116]⟩,⟨#[99,99,98,114,111,97,100]⟩,23,6,0,0,0⟩,
 ⟨70,⟨#[102,117,116,101,120,32,119,97,105,116]⟩,⟨#[99,102,119,97,105,116]⟩,16,7,0,0,0⟩,
 ⟨71,⟨#[102,117,116,101,120,32,119,97,107,101]⟩,⟨#[99,102,119,97,107,101]⟩,16,7,0,0,0⟩,
 ⟨72,⟨#[102,117,116,101,120,32,114,101,113,117,101,117,101]⟩,⟨#[99,102,114,101,113]⟩,16,7,0,7,0⟩,
 ⟨73,⟨#[102,117,116,101,120,32,99,109,112,114,101,113,117,101,117,101]⟩,⟨#[99,102,99,109,112]⟩,16,7,0,7,0⟩]
theorem tab_len:tab.length=45:=by decide
def CRow.prog (r:CRow):List Value:= [.int .i64 r.num, .string r.name, .string r.routine, .int .i64 r.k0, .int .i64 r.k1, .int .i64 r.k2, .int .i64 r.k3]
def CRow.ref (r:CRow):List Value:= [.int .i64 r.num, .string r.name, .string r.routine, .int .i64 r.layer, .int .i64 r.k0, .int .i64 r.k1, .int .i64 r.k2, .int .i64 r.k3]
theorem flat_at {α β:Type} (f:α→List β) (n:Nat) (hf: ∀x,(f x).length=n): ∀(l:List α) (i j:Nat) (x:α),l[i]?=some x→j<n→(l.flatMap f)[i*n+j]?=(f x)[j]?
 |[],i,j,x,h,_=>by simp at h
 |y::l,0,j,x,h,hj=>by
  have e:y=x:=by simpa using h
  subst e
  rw[List.flatMap_cons,Nat.zero_mul,Nat.zero_add,List.getElem?_append_left (by rw[hf];exact hj)]
 |y::l,i+1,j,x,h,hj=>by
  rw[List.flatMap_cons,List.getElem?_append_right (by rw[hf,Nat.succ_mul];omega),hf]
  rw[show (i+1)*n+j - n=i*n+j by rw[Nat.succ_mul];omega]
  exact flat_at f n hf l i j x (by simpa using h) hj
def ofName (s:ByteArray):List CRow→Option CRow
 |[]=>none
 |r::l=>if (r.name.toList==s.toList)=true then some r else ofName s l
theorem ofName_take {n:ByteArray} {l:List CRow} {k:Nat} {r:CRow} (h: ∀j x,j<k→l[j]?=some x→(x.name.toList==n.toList)=false) (hr:l[k]?=some r) (he:(r.name.toList==n.toList)=true):ofName n l=some r:=by
 induction l generalizing k with
 |nil=>simp at hr
 |cons y l ih=>
  cases k with
  |zero=>
   have e:y=r:=by simpa using hr
   subst e
   rw[ofName,if_pos he]
  |succ k=>
   rw[ofName,if_neg (by rw[h 0 y (by omega) rfl];simp)]
   exact ih (k:=k) (fun j x hj hx=>h (j+1) x (by omega) (by simpa using hx)) (by simpa using hr)
theorem ofName_none {n:ByteArray} {l:List CRow} (h: ∀j x,j<l.length→l[j]?=some x→(x.name.toList==n.toList)=false):ofName n l=none:=by
 induction l with
 |nil=>rfl
 |cons y l ih=>
  rw[ofName,if_neg (by rw[h 0 y (by simp) rfl];simp)]
  exact ih (fun j x hj hx=>h (j+1) x (by rw[List.length_cons];omega) (by simpa using hx))
end Go.Proofs.YtaangaogmnlljaaGreatDoor.PosTab
namespace Go.Proofs.YtaangaogmnlljaaGreatDoor.PosTab
open Go.RowKit
def ProgTab (w:World) (b:Nat):Prop:= ∃fr,w.heap[b]?=some (.cells (tab.flatMap CRow.prog).toArray 170 fr)
def RefTab (w:World) (b:Nat):Prop:= ∃fr,w.heap[b]?=some (.cells (tab.flatMap CRow.ref).toArray 242 fr)
theorem wp_lays {P:Program} {K:Act→World→Prop} {Q:Exit→Act→World→Prop} {o:Oper} {a:Act} {w:World} (n:Nat) (C:Array Value) (T:TypeId)
  (h: ∀w,(execOp a.eval o).run P w= .ok (.value (.slice (some ⟨w.heap.size,0,none⟩) n n)) (w.alloc (.cells C T)))
  (hk:K (a.put o.dst (.slice (some ⟨w.heap.size,0,none⟩) n n)) (w.alloc (.cells C T))):Oper.wp P o a w K Q:=by
 unfold Oper.wp
 rw[h]
 exact hk
theorem heap_new (w:World) (o:Obj) (n:Nat) (h:n=w.heap.size):(w.alloc o).heap[n]?=some o:=by
 subst h
 show (w.heap.push o)[w.heap.size]?=some o
 simp
set_option maxRecDepth 100000 in
theorem table_any (w:World):Calls Tryz.prog 74 #[] w fun e w'=> ∃b,e= .returned (.slice (some ⟨b,0,none⟩) 45 45)∧w.heap.size≤b∧b<w'.heap.size∧ProgTab w' b∧Below w.heap.size w w':=by
 go_enter Tryz.func74,Tryz.ntmps74
 go_wp2
 obtain ⟨C,hC⟩: ∃C,C=(tab.flatMap CRow.prog).toArray:=⟨_,rfl⟩
 refine wp_lays 45 C 170 (fun _=>by rw[hC];kernel_rfl) ?_
 exact m72
end Go.Proofs.YtaangaogmnlljaaGreatDoor.PosTab
