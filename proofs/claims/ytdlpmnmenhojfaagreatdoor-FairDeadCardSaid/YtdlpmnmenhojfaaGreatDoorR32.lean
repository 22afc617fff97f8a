/- Part 32 of what the proof stands on: FdG. -/
import Derived.Test.YtdlpmnmenhojfaaGreatDoorR28
set_option linter.unusedVariables false
set_option maxRecDepth 100000
variable {zP:Prop}
namespace Go.Proofs.YtdlpmnmenhojfaaGreatDoor
open Go.IntKind renaming i64->Z,u64->J
open Go.Value renaming int->E,pointer->Y,slice->Sl
open Option renaming none->O,some->V
open Go.Obj renaming cells->Ce
open Go.Ending renaming returned->Rt
namespace Kn
open Asm Hp PosTab
def fdC:List zx:= [⟨1,0,0,0,0,0,0⟩,⟨22,0,0,0,10,0,0⟩,⟨1,0,0,0,1,0,0⟩,⟨22,0,0,0,15,0,0⟩,⟨16,0,0,0,0,0,0⟩]
def FDp (lib:List zx) (loop:Int) (calls:List kI):Fixed:=⟨lib,loop,calls,fdC,3,1,1⟩
def jH (A:zD):zD:={ A with out:= [],pos:=0,entries:=0,w:=0,draw:=0}
def zem (F:Fixed) (A:zD):zD:={ kY F (jH A) 0 with out:= []}
def fdS (F:Fixed):Nat→zD
 |0=>zdR F 200 0
 |k+1=>zem F (fdS F k)
def zhR (k:Nat):List Ev:=
 if k=24 then [{ kind:=1,t:=64,num:=10}]
 else if k=31 then [{ kind:=5,t:=64,num:=5,code:=1}]
 else if k=35 then [{ kind:=2,t:=64,num:=10,v:=1}]
 else if k=37 then [{ kind:=1,t:=64,num:=15,a0:=1,a1:=1}]
 else []
def zuZ (a b:Ev):Bool:=a.kind==b.kind&&a.pos==b.pos&&a.w==b.w&&a.t==b.t&&a.num==b.num&&a.a0==b.a0&&a.a1==b.a1&&a.a2==b.a2&&a.a3==b.a3&&a.v==b.v&&a.code==b.code
theorem zsA {a b:Ev} (h:zuZ a b=true):a=b:=by
 obtain ⟨_,_,_,_,_,_,_,_,_,_,_⟩:=a;obtain ⟨_,_,_,_,_,_,_,_,_,_,_⟩:=b;unfold zuZ at h;simp only[Bool.and_eq_true,beq_iff_eq] at h;simp only[Ev.mk.injEq];simpa only[and_assoc] using h
def zjC:List Ev→List Ev→Bool
 |[],[]=>true
 |a::l,b::m=>zuZ a b&&zjC l m
 |_,_=>false
theorem zf0: ∀{l m:List Ev},zjC l m=true→l=m
 |[],[],_=>rfl
 |a::l,b::m,h=>by
  unfold zjC at h
  rw[Bool.and_eq_true] at h
  rw[zsA h.1,zf0 h.2]
def zs9 (F:Fixed):Nat→Nat→zD→Bool
 |0,_,_=>true
 |n+1,k,A=>jF F (jH A)&&zjC (kY F (jH A) 0).out (zhR k)&& (A.slps.isEmpty)&&zs9 F n (k+1) (zem F A)
theorem zki {F:Fixed}: ∀{n k:Nat},zs9 F n k (fdS F k)=true→ ∀j<n,jF F (jH (fdS F (k+j)))=true∧(kY F (jH (fdS F (k+j))) 0).out=zhR (k+j)∧(fdS F (k+j)).slps= []
 |0,_,_,j,hj=>absurd hj (Nat.not_lt_zero _)
 |n+1,k,h,j,hj=>by
  unfold zs9 at h
  simp only[Bool.and_eq_true,List.isEmpty_iff] at h
  obtain ⟨⟨⟨h1,h2'⟩,h3⟩,h4⟩:=h
  have h2:=zf0 h2'
  cases j with
  |zero=>exact ⟨h1,h2,h3⟩
  |succ j=>
   have:=zki (n:=n) (k:=k+1) h4 j Y1
   rwa[show k+1+j=k+(j+1) by omega] at this
def zrM (p:List zx×List (Str×Nat)):Bool:=zs9 (FDp p.1 (ZQ p.2) (ZE p.2)) 38 0 (zdR (FDp p.1 (ZQ p.2) (ZE p.2)) 200 0)
set_option maxRecDepth 1000000 in
theorem zpC:(match Vt (ZM Zy) with|some p=>zrM p|none=>false)=true:=jE
end Kn
end Go.Proofs.YtdlpmnmenhojfaaGreatDoor
