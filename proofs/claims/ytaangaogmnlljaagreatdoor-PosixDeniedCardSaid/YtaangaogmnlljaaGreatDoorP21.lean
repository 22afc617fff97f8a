/- Part 21 of what the proof stands on: KnBare. -/
import Derived.Test.YtaangaogmnlljaaGreatDoorP19
set_option linter.unusedVariables false
namespace Go.Proofs.YtaangaogmnlljaaGreatDoor.Kn
open Asm
def bare1 (x:InsL):InsL:={ x with m:=0,w:=0,v:=if x.op=12∨x.op=13∨x.op=14∨x.op=15 then 0 else x.v}
theorem may_of {x:InsL} {n:Int} {lib:Bool} (hO:1≤x.op∧x.op≤58) (hQ:lib=true→x.op≠22) (hL:lib=true∨x.op≤22∧x.m=0) (hA:regOk x.a (hasA x.op) false=true) (hB:regOk x.b (hasB x.op) (lessBK x.op)=true) (hC:regOk x.c (hasC x.op) (lessCK x.op)=true) (hN:numOk x (hasV x.op) n=true) (hm:0≤x.m∧x.m≤99) (hw:0≤x.w∧x.w≤2) (hW:x.w=0∨0<x.m∧hasA x.op=true):mayK x n lib=true:=by
 unfold mayK
 simp only[Bool.and_eq_true,Bool.or_eq_true,decide_eq_true_eq,Bool.not_eq_true',Bool.and_eq_false_iff,beq_iff_eq,beq_eq_false_iff_ne]
 refine ⟨⟨⟨⟨⟨⟨⟨⟨⟨⟨⟨⟨hO.1,hO.2⟩,?_⟩,hL⟩,hA⟩,hB⟩,hC⟩,hN⟩,hm.1⟩,hm.2⟩,hw.1⟩,hw.2⟩,hW⟩
 cases lib with
 |false=>exact Or.inl rfl
 |true=>exact Or.inr (hQ rfl)
theorem may_lib {x:InsL} {n:Int} {lib:Bool} (_:mayK x n lib=true):(x.op !=22)=true∨x.op=22:=by
 by_cases e:x.op=22
 ·exact Or.inr e
 ·exact Or.inl (by simp[e])
theorem may_bare1 {x:InsL} {n:Int} {lib:Bool} (h:mayK x n lib=true):mayK (bare1 x) 1 (x.op !=22)=true:=by
 obtain ⟨hO,hQ,hL,hA,hB,hC,hN,hm,hw,hW⟩:=may_parts h
 refine may_of (x:=bare1 x) hO (fun e=>by simpa[bare1] using e) ?_ hA hB hC ?_ ⟨Int.le_refl 0,(by show (0:Int)≤99;decide)⟩ ⟨Int.le_refl 0,(by show (0:Int)≤2;decide)⟩ (Or.inl rfl)
 ·rcases may_lib h with e|e
  ·exact Or.inl e
  ·exact Or.inr ⟨by show x.op≤22;omega,rfl⟩
 ·show numOk (bare1 x) (hasV x.op) 1=true
  unfold numOk bare1 at*
  simp only
  by_cases h1:x.op=12∨x.op=13∨x.op=14∨x.op=15
  ·rw[if_pos h1,if_pos h1];exact decide_eq_true (by decide)
  ·rw[if_neg h1,if_neg h1];rw[if_neg h1] at hN;exact hN
theorem may_bare {x:InsL} {n:Int} {lib:Bool} (h:mayK x n lib=true):mayK (bare x) n (x.op !=22)=true:=by
 obtain ⟨hO,hQ,hL,hA,hB,hC,hN,hm,hw,hW⟩:=may_parts h
 refine may_of (x:=bare x) hO (fun e=>by simpa[bare] using e) ?_ hA hB hC hN ⟨Int.le_refl 0,(by show (0:Int)≤99;decide)⟩ ⟨Int.le_refl 0,(by show (0:Int)≤2;decide)⟩ (Or.inl rfl)
 rcases may_lib h with e|e
 ·exact Or.inl e
 ·exact Or.inr ⟨by show x.op≤22;omega,rfl⟩
theorem runs_ins {l:List InsL} {lib:Bool} (h: ∀x∈l,mayK x l.length lib=true) (pc:Int):runs? l pc=insAt l pc:=by
 unfold runs?
 cases e:insAt l pc with
 |none=>rfl
 |some x=>
  have hx:x∈l:=by
   unfold insAt at e
   split at e
   ·cases e
   ·exact List.mem_of_getElem? e
  simp[Option.filter,may_bare (h x hx)]
theorem insAt_in {l:List InsL} {pc:Int} (h0:0≤pc) (h1:pc<l.length):insAt l pc=some (l.getD pc.toNat {})∧l.getD pc.toNat {}∈l:=by
 have hl:pc.toNat<l.length:=by omega
 unfold insAt
 rw[if_neg (by omega),List.getD_eq_getElem?_getD,List.getElem?_eq_getElem hl]
 exact ⟨rfl,List.getElem_mem hl⟩
theorem insAt_out {l:List InsL} {pc:Int} (h:pc<0∨(l.length:Int)≤pc):insAt l pc=none:=by
 unfold insAt
 split
 ·rfl
 ·exact List.getElem?_eq_none (by omega)
end Go.Proofs.YtaangaogmnlljaaGreatDoor.Kn
