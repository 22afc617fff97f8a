/- Part 20 of what the proof stands on: KnBare. -/
import Derived.Test.YtdlpmnmenhojfaaGreatDoorR17
set_option linter.unusedVariables false
set_option maxRecDepth 100000
variable {zP:Prop}
namespace Go.Proofs.YtdlpmnmenhojfaaGreatDoor
open Go.IntKind renaming i64->Z,u64->J
open Go.Value renaming int->E,pointer->Y,slice->Sl
open Option renaming none->O,some->V
open Go.Obj renaming cells->Ce
open Go.Ending renaming returned->Rt
namespace Kn
open Asm
def zar (x:zx):zx:={ x with m:=0,w:=0,v:=if x.op=12∨x.op=13∨x.op=14∨x.op=15 then 0 else x.v}
theorem zpo {x:zx} {n:Int} {lib:Bool} (hO:1≤x.op∧x.op≤58) (hQ:lib=true→x.op≠22) (hL:lib=true∨x.op≤22∧x.m=0) (hA:Kw x.a (Gm x.op) false=true) (hB:Kw x.b (hasB x.op) (kJ x.op)=true) (hC:Kw x.c (JR x.op) (gy x.op)=true) (hN:Gv x (Gj x.op) n=true) (hm:0≤x.m∧x.m≤99) (hw:0≤x.w∧x.w≤2) (hW:x.w=0∨0<x.m∧Gm x.op=true):vI x n lib=true:=by
 unfold vI
 simp only[Bool.and_eq_true,Bool.or_eq_true,decide_eq_true_eq,Bool.not_eq_true',Bool.and_eq_false_iff,beq_iff_eq,beq_eq_false_iff_ne]
 refine ⟨⟨⟨⟨⟨⟨⟨⟨⟨⟨⟨⟨hO.1,hO.2⟩,?_⟩,hL⟩,hA⟩,hB⟩,hC⟩,hN⟩,hm.1⟩,hm.2⟩,hw.1⟩,hw.2⟩,hW⟩
 cases lib with
 |false=>exact Or.inl rfl
 |true=>exact Or.inr (hQ rfl)
theorem zdT {x:zx} {n:Int} {lib:Bool} (_:vI x n lib=true):(x.op !=22)=true∨x.op=22:=by
 by_cases e:x.op=22
 ·exact Or.inr e
 ·exact Or.inl (by simp[e])
theorem zmS {x:zx} {n:Int} {lib:Bool} (h:vI x n lib=true):vI (zar x) 1 (x.op !=22)=true:=by
 obtain ⟨hO,hQ,hL,hA,hB,hC,hN,hm,hw,hW⟩:=vH h;refine zpo (x:=zar x) hO (fun e=>by simpa[zar] using e) ?_ hA hB hC ?_ ⟨Int.le_refl 0,(by show (0:Int)≤99;decide)⟩ ⟨Int.le_refl 0,(by show (0:Int)≤2;decide)⟩ (Or.inl rfl)
 ·rcases zdT h with e|e
  ·exact Or.inl e
  ·exact Or.inr ⟨by show x.op≤22;omega,rfl⟩
 ·show Gv (zar x) (Gj x.op) 1=true;unfold Gv zar at*;simp only;by_cases h1:x.op=12∨x.op=13∨x.op=14∨x.op=15
  ·rw[if_pos h1,if_pos h1];exact decide_eq_true Y2
  ·rw[if_neg h1,if_neg h1];rw[if_neg h1] at hN;exact hN
theorem zn9 {x:zx} {n:Int} {lib:Bool} (h:vI x n lib=true):vI (bare x) n (x.op !=22)=true:=by
 obtain ⟨hO,hQ,hL,hA,hB,hC,hN,hm,hw,hW⟩:=vH h;refine zpo (x:=bare x) hO (fun e=>by simpa[bare] using e) ?_ hA hB hC hN ⟨Int.le_refl 0,(by show (0:Int)≤99;decide)⟩ ⟨Int.le_refl 0,(by show (0:Int)≤2;decide)⟩ (Or.inl rfl);rcases zdT h with e|e
 ·exact Or.inl e
 ·exact Or.inr ⟨by show x.op≤22;omega,rfl⟩
theorem Kg {l:List zx} {lib:Bool} (h: ∀x∈l,vI x l.length lib=true) (pc:Int):zbK l pc=Zc l pc:=by
 unfold zbK
 cases e:Zc l pc with
 |none=>rfl
 |some x=>
  have hx:x∈l:=by
   unfold Zc at e
   split at e
   ·cases e
   ·exact List.mem_of_getElem? e
  simp[Option.filter,zn9 (h x hx)]
theorem zoQ {l:List zx} {pc:Int} (h0:0≤pc) (h1:pc<l.length):Zc l pc=V (l.getD pc.toNat {})∧l.getD pc.toNat {}∈l:=by
 have hl:pc.toNat<l.length:=Y1;unfold Zc;rw[if_neg Y1,List.getD_eq_getElem?_getD,List.getElem?_eq_getElem hl];exact ⟨rfl,List.getElem_mem hl⟩
theorem JF {l:List zx} {pc:Int} (h:pc<0∨(l.length:Int)≤pc):Zc l pc=none:=by
 unfold Zc;split
 ·rfl
 ·exact List.getElem?_eq_none Y1
end Kn
end Go.Proofs.YtdlpmnmenhojfaaGreatDoor
