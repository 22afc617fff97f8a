/- Part 36 of what the proof stands on: RdRight, KnStepL, KnRet, KnKo2, KnPush, KnIdle, KnStp, KnBorn, KnNewA, KnNewB, KnNewC. -/
import Derived.Test.YtaangaogmnlljaaGreatDoorP18
import Derived.Test.YtaangaogmnlljaaGreatDoorP30
import Derived.Test.YtaangaogmnlljaaGreatDoorP31
import Derived.Test.YtaangaogmnlljaaGreatDoorP32
import Derived.Test.YtaangaogmnlljaaGreatDoorP33
set_option linter.unusedVariables false
set_option maxRecDepth 100000
set_option maxHeartbeats 40000000
namespace Go.Proofs.YtaangaogmnlljaaGreatDoor.Kn
open Go.RowKit Asm
set_option linter.unusedVariables false
set_option linter.unusedSimpArgs false
theorem rk_used {x:Int} (h:regOk x true false=true):regB x=true:=by simpa[regOk,regB] using h
theorem rk_zero {x:Int} {l:Bool} (h:regOk x false l=true):x=0:=by simpa[regOk] using h
theorem rk_far {x:Int} (h:regB x=true):(x== -1)=false∧(x != -1)=true:=by
 unfold regB at h
 simp only[Bool.and_eq_true,decide_eq_true_eq] at h
 exact nez (by omega)
theorem rk_used2 {x:Int} (h:regOk x true false=true):regB x=true∧(x== -1)=false∧(x != -1)=true:=⟨rk_used h,rk_far (rk_used h)⟩
theorem rk_less {x:Int} (h:regOk x true true=true):(regB x=true∧(x== -1)=false∧(x != -1)=true)∨x= -1:=by
 have h2:regB x=true∨x= -1:=by simpa[regOk,regB] using h
 rcases h2 with h2|h2
 ·exact Or.inl ⟨h2,rk_far h2⟩
 ·exact Or.inr h2
theorem marks2 {m w:Int} {A:Bool} (hm:0≤m∧m≤99) (hw:0≤w∧w≤2) (h:w=0∨0<m∧A=true) (hA:A=false):(m=0∧w=0)∨((m==0)=false∧(m !=0)=true∧0≤m∧m≤99∧w=0):=by
 rcases h with h|h
 ·by_cases e:m=0
  ·exact Or.inl ⟨e,h⟩
  ·exact Or.inr ⟨(nez e).1,(nez e).2,hm.1,hm.2,h⟩
 ·rw[hA] at h;cases h.2
theorem marks3 {m w:Int} {A:Bool} (hm:0≤m∧m≤99) (hw:0≤w∧w≤2) (h:w=0∨0<m∧A=true):(m=0∧w=0)∨((m==0)=false∧(m !=0)=true∧0≤m∧m≤99∧w=0)∨((m==0)=false∧(m !=0)=true∧0≤m∧m≤99∧(w==0)=false∧(w !=0)=true∧0≤w∧w≤2):=by
 by_cases ew:w=0
 ·by_cases e:m=0
  ·exact Or.inl ⟨e,ew⟩
  ·exact Or.inr (Or.inl ⟨(nez e).1,(nez e).2,hm.1,hm.2,ew⟩)
 ·rcases h with h|h
  ·exact absurd h ew
  ·exact Or.inr (Or.inr ⟨(nez (by omega)).1,(nez (by omega)).2,hm.1,hm.2,(nez ew).1,(nez ew).2,hw.1,hw.2⟩)
theorem rright_lib (x:InsL) {n:Int} (hn:0≤n∧n≤4000) (h:mayK x n true=true) (w:World):Calls Tryz.prog 281 #[.agg (insV x), .int .i64 n, .bool true] w fun e w'=>e= .returned (.bool true)∧Below w.heap.size w w':=by
 obtain ⟨hO,hQ,-,hA,hB,hC,hN,hm,hw,hW⟩:=may_parts h
 have hQ:=hQ rfl
 clear h
 obtain ⟨o,xa,xb,xc,xv,xm,xw⟩:=x
 unfold insV
 simp only at hO hQ hA hB hC hm hw hW
 have e:(o=1)∨(o=2∨o=23∨o=39∨o=47∨o=49∨o=50∨o=54)∨(o=3∨o=4∨o=5∨o=6∨o=7∨o=8∨o=9∨o=10∨o=11)∨(o=12∨o=15)∨(o=13∨o=14)∨(o=16∨o=33∨o=55∨o=56∨o=58)∨(o=17∨o=18∨o=19∨o=20∨o=31)∨(o=21∨o=32)∨(o=22)∨(o=43)∨(o=45)∨(o=24∨o=25∨o=26∨o=27∨o=48)∨(o=28∨o=29∨o=30∨o=34∨o=35∨o=36∨o=37∨o=38∨o=40∨o=41∨o=42∨o=44∨o=46∨o=51∨o=52∨o=53∨o=57):=by omega
 rcases e with e|e|e|e|e|e|e|e|e|e|e|e|e
 ·rcases e with rfl
  all_goals exact rrtT_1 w hn (by omega) rfl rfl rfl (rk_used hA) (rk_zero hB) (rk_zero hC) (marks3 hm hw hW)
 ·rcases e with rfl|rfl|rfl|rfl|rfl|rfl|rfl
  all_goals exact rrtT_2 w hn (by omega) rfl rfl rfl (rk_used hA) (rk_used2 hB) (rk_zero hC) (by simpa[numOk,hasV] using hN) (marks3 hm hw hW)
 ·rcases e with rfl|rfl|rfl|rfl|rfl|rfl|rfl|rfl|rfl
  all_goals exact rrtT_3 w hn (by omega) rfl rfl rfl (rk_used hA) (rk_used2 hB) (rk_less hC) (fun e=>by simpa[numOk,e,beq_eq_false_iff_ne.1 e] using hN) (marks3 hm hw hW)
 ·rcases e with rfl|rfl
  all_goals exact rrtT_4 w hn (by omega) rfl rfl rfl (rk_zero hA) (rk_zero hB) (rk_zero hC) (by simpa[numOk] using hN) (marks2 hm hw hW rfl)
 ·rcases e with rfl|rfl
  all_goals exact rrtT_5 w hn (by omega) rfl rfl rfl (rk_used hA) (rk_zero hB) (rk_zero hC) (by simpa[numOk] using hN) (marks3 hm hw hW)
 ·rcases e with rfl|rfl|rfl|rfl|rfl
  all_goals exact rrtT_6 w hn (by omega) rfl rfl rfl (rk_zero hA) (rk_zero hB) (rk_zero hC) (by simpa[numOk,hasV] using hN) (marks2 hm hw hW rfl)
 ·rcases e with rfl|rfl|rfl|rfl|rfl
  all_goals exact rrtT_7 w hn (by omega) rfl rfl rfl (rk_used hA) (rk_less hB) (rk_zero hC) (marks3 hm hw hW)
 ·rcases e with rfl|rfl
  all_goals exact rrtT_8 w hn (by omega) rfl rfl rfl (rk_used hA) (rk_less hB) (rk_used2 hC) (marks3 hm hw hW)
 ·exact absurd e hQ
 ·rcases e with rfl
  all_goals exact rrtT_10 w hn (by omega) rfl rfl rfl (rk_used hA) (rk_less hB) (rk_zero hC) (fun e=>by simpa[numOk,e,beq_eq_false_iff_ne.1 e] using hN) (marks3 hm hw hW)
 ·rcases e with rfl
  all_goals exact rrtT_11 w hn (by omega) rfl rfl rfl (rk_used hA) (rk_used2 hB) (rk_zero hC) (marks3 hm hw hW)
 ·rcases e with rfl|rfl|rfl|rfl|rfl
  all_goals exact rrtT_12 w hn (by omega) rfl rfl rfl (rk_used hA) (rk_used2 hB) (rk_used2 hC) (by simpa[numOk,hasV] using hN) (marks3 hm hw hW)
 ·rcases e with rfl|rfl|rfl|rfl|rfl|rfl|rfl|rfl|rfl|rfl|rfl|rfl|rfl|rfl|rfl|rfl|rfl
  all_goals exact rrtT_13 w hn (by omega) rfl rfl rfl (rk_used hA) (rk_zero hB) (rk_zero hC) (by simpa[numOk,hasV] using hN) (marks3 hm hw hW)
set_option maxRecDepth 100000 in
theorem rrtF_no {o xa xb xc xv xm xw n:Int} (w:World) (ho:o<1∨58<o):
  Calls Tryz.prog 281 #[.agg #[.int .i64 o, .int .i64 xa, .int .i64 xb, .int .i64 xc, .int .u64 xv, .int .i64 xm, .int .i64 xw], .int .i64 n, .bool false] w fun e w'=>e= .returned (.bool false)∧Below w.heap.size w w':=by
 have HF:Hid (∀W,Calls Tryz.prog 264 #[.int .i64 o] W fun e w'=>e= .returned (.agg #[.bool false, .bool false, .bool false, .bool false, .bool false, .bool false, .bool false, .bool false])∧Below W.heap.size W w'):=Lib.hid fun W=>rof_no ho W
 have HR:=Lib.hid rreg_any
 clear ho
 exact rrtS
theorem a90.q34 {P:Prop} (h:P:=by
 have hg:=ho.1
 clear ho
 exact rrtS):P:=h
open a90 in
set_option maxRecDepth 100000 in
theorem rrtF_far {o xa xb xc xv xm xw n:Int} (w:World) (ho:22<o∧o≤58):
  Calls Tryz.prog 281 #[.agg #[.int .i64 o, .int .i64 xa, .int .i64 xb, .int .i64 xc, .int .u64 xv, .int .i64 xm, .int .i64 xw], .int .i64 n, .bool false] w fun e w'=>e= .returned (.bool false)∧Below w.heap.size w w':=by
 exact m34
theorem a91.q34 {P:Prop} (h:P:=by
 have hg:=ho.2
 clear ho
 exact rrtS):P:=h
open a91 in
set_option maxRecDepth 100000 in
theorem rrtF_m {o xa xb xc xv xm xw n:Int} (w:World) (ho:1≤o∧o≤22) (hm:(xm==0)=false) (hm2:(xm !=0)=true):
  Calls Tryz.prog 281 #[.agg #[.int .i64 o, .int .i64 xa, .int .i64 xb, .int .i64 xc, .int .u64 xv, .int .i64 xm, .int .i64 xw], .int .i64 n, .bool false] w fun e w'=>e= .returned (.bool false)∧Below w.heap.size w w':=by
 exact m34
theorem a92.q34 {P:Prop} (h:P:=by
 have hg:=ho.2
 clear ho
 rcases hw with hw|hw|rfl|rfl
 all_goals exact rrtS):P:=h
open a92 in
set_option maxRecDepth 100000 in
theorem rrtF_w {o xa xb xc xv xm xw n:Int} (w:World) (ho:1≤o∧o≤22) (hw:xw<0∨2<xw∨xw=1∨xw=2):
  Calls Tryz.prog 281 #[.agg #[.int .i64 o, .int .i64 xa, .int .i64 xb, .int .i64 xc, .int .u64 xv, .int .i64 0, .int .i64 xw], .int .i64 n, .bool false] w fun e w'=>e= .returned (.bool false)∧Below w.heap.size w w':=by
 exact m34
theorem rright_client (x:InsL) {n:Int} (hn:0≤n∧n≤4000) (w:World):Calls Tryz.prog 281 #[.agg (insV x), .int .i64 n, .bool false] w fun e w'=>e= .returned (.bool (mayK x n false))∧Below w.heap.size w w':=by
 obtain ⟨o,xa,xb,xc,xv,xm,xw⟩:=x
 unfold insV
 simp only
 by_cases h1:o<1∨58<o
 ·rw[show mayK ⟨o,xa,xb,xc,xv,xm,xw⟩ n false=false by
   rcases h1 with h1|h1
   ·simp[mayK,show¬1≤o by omega]
   ·simp[mayK,show¬o≤58 by omega]]
  exact rrtF_no w h1
 by_cases h2:22<o
 ·rw[show mayK ⟨o,xa,xb,xc,xv,xm,xw⟩ n false=false by simp[mayK,show¬o≤22 by omega]]
  exact rrtF_far w ⟨h2,by omega⟩
 rcases fldZ xm with rfl|⟨h3,h3'⟩
 ·rcases fldZ xw with rfl|⟨h4,h4'⟩
  ·have e:(o=1)∨(o=2)∨(o=3∨o=4∨o=5∨o=6∨o=7∨o=8∨o=9∨o=10∨o=11)∨(o=12∨o=15)∨(o=13∨o=14)∨(o=16)∨(o=17∨o=18∨o=19∨o=20)∨(o=21)∨(o=22):=by omega
   rcases e with e|e|e|e|e|e|e|e|e
   ·subst e
    rw[show mayK ⟨1,xa,xb,xc,xv,0,0⟩ n false=(regB xa&&xb==0&&xc==0) by simp[mayK,regOk,regB,hasA,hasB,hasC,hasV,lessBK,lessCK,numOk,Bool.and_assoc]]
    exact rrtF_1 (xm:=0) (xw:=0) w hn (by decide) (by decide) rfl rfl rfl
   ·subst e
    rw[show mayK ⟨2,xa,xb,xc,xv,0,0⟩ n false=(regB xa&&regB xb&&xc==0&&xv==0) by simp[mayK,regOk,regB,hasA,hasB,hasC,hasV,lessBK,lessCK,numOk,Bool.and_assoc]]
    exact rrtF_2 (xm:=0) (xw:=0) w hn (by decide) (by decide) rfl rfl rfl
   ·rcases e with rfl|rfl|rfl|rfl|rfl|rfl|rfl|rfl|rfl
    ·rw[show mayK ⟨3,xa,xb,xc,xv,0,0⟩ n false=(regB xa&&regB xb&& (regB xc||xc== -1)&& (xc== -1||xv==0)) by simp[mayK,regOk,regB,hasA,hasB,hasC,hasV,lessBK,lessCK,numOk,Bool.and_assoc]]
     exact rrtF_3 (xm:=0) (xw:=0) w hn (by decide) (by decide) rfl rfl rfl
    ·rw[show mayK ⟨4,xa,xb,xc,xv,0,0⟩ n false=(regB xa&&regB xb&& (regB xc||xc== -1)&& (xc== -1||xv==0)) by simp[mayK,regOk,regB,hasA,hasB,hasC,hasV,lessBK,lessCK,numOk,Bool.and_assoc]]
     exact rrtF_3 (xm:=0) (xw:=0) w hn (by decide) (by decide) rfl rfl rfl
    ·rw[show mayK ⟨5,xa,xb,xc,xv,0,0⟩ n false=(regB xa&&regB xb&& (regB xc||xc== -1)&& (xc== -1||xv==0)) by simp[mayK,regOk,regB,hasA,hasB,hasC,hasV,lessBK,lessCK,numOk,Bool.and_assoc]]
     exact rrtF_3 (xm:=0) (xw:=0) w hn (by decide) (by decide) rfl rfl rfl
    ·rw[show mayK ⟨6,xa,xb,xc,xv,0,0⟩ n false=(regB xa&&regB xb&& (regB xc||xc== -1)&& (xc== -1||xv==0)) by simp[mayK,regOk,regB,hasA,hasB,hasC,hasV,lessBK,lessCK,numOk,Bool.and_assoc]]
     exact rrtF_3 (xm:=0) (xw:=0) w hn (by decide) (by decide) rfl rfl rfl
    ·rw[show mayK ⟨7,xa,xb,xc,xv,0,0⟩ n false=(regB xa&&regB xb&& (regB xc||xc== -1)&& (xc== -1||xv==0)) by simp[mayK,regOk,regB,hasA,hasB,hasC,hasV,lessBK,lessCK,numOk,Bool.and_assoc]]
     exact rrtF_3 (xm:=0) (xw:=0) w hn (by decide) (by decide) rfl rfl rfl
    ·rw[show mayK ⟨8,xa,xb,xc,xv,0,0⟩ n false=(regB xa&&regB xb&& (regB xc||xc== -1)&& (xc== -1||xv==0)) by simp[mayK,regOk,regB,hasA,hasB,hasC,hasV,lessBK,lessCK,numOk,Bool.and_assoc]]
     exact rrtF_3 (xm:=0) (xw:=0) w hn (by decide) (by decide) rfl rfl rfl
    ·rw[show mayK ⟨9,xa,xb,xc,xv,0,0⟩ n false=(regB xa&&regB xb&& (regB xc||xc== -1)&& (xc== -1||xv==0)) by simp[mayK,regOk,regB,hasA,hasB,hasC,hasV,lessBK,lessCK,numOk,Bool.and_assoc]]
     exact rrtF_3 (xm:=0) (xw:=0) w hn (by decide) (by decide) rfl rfl rfl
    ·rw[show mayK ⟨10,xa,xb,xc,xv,0,0⟩ n false=(regB xa&&regB xb&& (regB xc||xc== -1)&& (xc== -1||xv==0)) by simp[mayK,regOk,regB,hasA,hasB,hasC,hasV,lessBK,lessCK,numOk,Bool.and_assoc]]
     exact rrtF_3 (xm:=0) (xw:=0) w hn (by decide) (by decide) rfl rfl rfl
    ·rw[show mayK ⟨11,xa,xb,xc,xv,0,0⟩ n false=(regB xa&&regB xb&& (regB xc||xc== -1)&& (xc== -1||xv==0)) by simp[mayK,regOk,regB,hasA,hasB,hasC,hasV,lessBK,lessCK,numOk,Bool.and_assoc]]
     exact rrtF_3 (xm:=0) (xw:=0) w hn (by decide) (by decide) rfl rfl rfl
   ·rcases e with rfl|rfl
    ·rw[show mayK ⟨12,xa,xb,xc,xv,0,0⟩ n false=(xa==0&&xb==0&&xc==0&&decide (xv<n)) by simp[mayK,regOk,regB,hasA,hasB,hasC,hasV,lessBK,lessCK,numOk,Bool.and_assoc]]
     exact rrtF_4 (xm:=0) (xw:=0) w hn (by decide) (by decide) rfl rfl rfl
    ·rw[show mayK ⟨15,xa,xb,xc,xv,0,0⟩ n false=(xa==0&&xb==0&&xc==0&&decide (xv<n)) by simp[mayK,regOk,regB,hasA,hasB,hasC,hasV,lessBK,lessCK,numOk,Bool.and_assoc]]
     exact rrtF_4 (xm:=0) (xw:=0) w hn (by decide) (by decide) rfl rfl rfl
   ·rcases e with rfl|rfl
    ·rw[show mayK ⟨13,xa,xb,xc,xv,0,0⟩ n false=(regB xa&&xb==0&&xc==0&&decide (xv<n)) by simp[mayK,regOk,regB,hasA,hasB,hasC,hasV,lessBK,lessCK,numOk,Bool.and_assoc]]
     exact rrtF_5 (xm:=0) (xw:=0) w hn (by decide) (by decide) rfl rfl rfl
    ·rw[show mayK ⟨14,xa,xb,xc,xv,0,0⟩ n false=(regB xa&&xb==0&&xc==0&&decide (xv<n)) by simp[mayK,regOk,regB,hasA,hasB,hasC,hasV,lessBK,lessCK,numOk,Bool.and_assoc]]
     exact rrtF_5 (xm:=0) (xw:=0) w hn (by decide) (by decide) rfl rfl rfl
   ·subst e
    rw[show mayK ⟨16,xa,xb,xc,xv,0,0⟩ n false=(xa==0&&xb==0&&xc==0&&xv==0) by simp[mayK,regOk,regB,hasA,hasB,hasC,hasV,lessBK,lessCK,numOk,Bool.and_assoc]]
    exact rrtF_6 (xm:=0) (xw:=0) w hn (by decide) (by decide) rfl rfl rfl
   ·rcases e with rfl|rfl|rfl|rfl
    ·rw[show mayK ⟨17,xa,xb,xc,xv,0,0⟩ n false=(regB xa&& (regB xb||xb== -1)&&xc==0) by simp[mayK,regOk,regB,hasA,hasB,hasC,hasV,lessBK,lessCK,numOk,Bool.and_assoc]]
     exact rrtF_7 (xm:=0) (xw:=0) w hn (by decide) (by decide) rfl rfl rfl
    ·rw[show mayK ⟨18,xa,xb,xc,xv,0,0⟩ n false=(regB xa&& (regB xb||xb== -1)&&xc==0) by simp[mayK,regOk,regB,hasA,hasB,hasC,hasV,lessBK,lessCK,numOk,Bool.and_assoc]]
     exact rrtF_7 (xm:=0) (xw:=0) w hn (by decide) (by decide) rfl rfl rfl
    ·rw[show mayK ⟨19,xa,xb,xc,xv,0,0⟩ n false=(regB xa&& (regB xb||xb== -1)&&xc==0) by simp[mayK,regOk,regB,hasA,hasB,hasC,hasV,lessBK,lessCK,numOk,Bool.and_assoc]]
     exact rrtF_7 (xm:=0) (xw:=0) w hn (by decide) (by decide) rfl rfl rfl
    ·rw[show mayK ⟨20,xa,xb,xc,xv,0,0⟩ n false=(regB xa&& (regB xb||xb== -1)&&xc==0) by simp[mayK,regOk,regB,hasA,hasB,hasC,hasV,lessBK,lessCK,numOk,Bool.and_assoc]]
     exact rrtF_7 (xm:=0) (xw:=0) w hn (by decide) (by decide) rfl rfl rfl
   ·subst e
    rw[show mayK ⟨21,xa,xb,xc,xv,0,0⟩ n false=(regB xa&& (regB xb||xb== -1)&&regB xc) by simp[mayK,regOk,regB,hasA,hasB,hasC,hasV,lessBK,lessCK,numOk,Bool.and_assoc]]
    exact rrtF_8 (xm:=0) (xw:=0) w hn (by decide) (by decide) rfl rfl rfl
   ·subst e
    rw[show mayK ⟨22,xa,xb,xc,xv,0,0⟩ n false=(xa==0&&xb==0&&xc==0&&decide (xv<1000)) by simp[mayK,regOk,regB,hasA,hasB,hasC,hasV,lessBK,lessCK,numOk,Bool.and_assoc]]
    exact rrtF_9 (xm:=0) (xw:=0) w hn (by decide) (by decide) rfl rfl rfl
  ·rw[show mayK ⟨o,xa,xb,xc,xv,0,xw⟩ n false=false by
    have:=beq_eq_false_iff_ne.1 h4
    simp[mayK,h4]]
   exact rrtF_w (xm:=0) w (by omega) (by have:=beq_eq_false_iff_ne.1 h4;omega)
 ·rw[show mayK ⟨o,xa,xb,xc,xv,xm,xw⟩ n false=false by simp[mayK,h3]]
  exact rrtF_m w (by omega) h3 h3'
end Go.Proofs.YtaangaogmnlljaaGreatDoor.Kn
namespace Go.Proofs.YtaangaogmnlljaaGreatDoor.Kn
open Go.RowKit Asm
section
variable {F:Fixed} {w:World} {own:Own} {G:KG} {M:Mach} {n:Nat}
theorem PRow.codeAt {own:Own} {tg:Tag} {v:Value} {l:List InsL} (h:PRow w own tg 68 7 v l.length (codeC l)) (hl:0<l.length): ∃g c,v= .slice (some ⟨g,0,none⟩) l.length c∧CodeAt w g l∧own g=tg∧g<w.heap.size:=by
 have h0:=h.1
 obtain ⟨h1,⟨h2,h3⟩ |⟨g,cap,cur,rfl,hg,r⟩⟩:=h0
 ·omega
 ·refine ⟨g,cap,rfl,fun k hk j u hu=>?_,h.2 g rfl,h.lt rfl⟩
  have hj:j<7:=by
   have:=(Array.getElem?_eq_some_iff.1 hu).1
   simpa[insV] using this
  have e1:(codeC l)[k*7+j]?=some u:=by
   rw[show codeC l=l.flatMap fun x=>(insV x).toList from rfl,flL_at (k:=7) (fun _=>rfl) l k hk j hj]
   simpa using hu
  have:=h.1.cells rfl _ _ e1
  rwa[Addr.add_lit,Nat.zero_add] at this
end
end Go.Proofs.YtaangaogmnlljaaGreatDoor.Kn
namespace Go.Proofs.YtaangaogmnlljaaGreatDoor.Kn
open Go.RowKit Asm
section
variable {F:Fixed} {w:World} {own:Own} {G:KG} {M:Mach} {n:Nat}
theorem KernP.top_ptr (h:KernP F w own G M n) {id:Int} {r:Run} (hr:runOf M.runs id=some r) (hne:r.l≠ []): ∃g c l,w.cell? ⟨G.tb id,1,none⟩=some (.slice (some ⟨g,0,none⟩) (l+1) c)∧r.l.length=l+1∧w.cell? ⟨g,l,none⟩=some (.pointer (some ⟨G.fb id l,0,none⟩))∧own g= .row id∧g<w.heap.size∧l+1≤c:=by
 obtain ⟨-,⟨lv,hc,hrow⟩,-,-,-⟩:=h.thr_cells hr
 obtain ⟨hm,rfl⟩:=runOf_mem hr
 have hl:0<r.l.length:=List.length_pos_iff.2 hne
 obtain ⟨l,hll⟩: ∃l,r.l.length=l+1:=⟨r.l.length - 1,by omega⟩
 obtain ⟨h1,⟨h2,h3⟩ |⟨g,cap,cur,rfl,hg,q⟩⟩:=hrow.1
 ·omega
 ·refine ⟨g,cap,l,by rw[hc,hll],hll,?_,hrow.2 g rfl,hrow.lt rfl,?_⟩
  ·have e1:(fptrs G.fb r)[l]?=some (.pointer (some ⟨G.fb r.id l,0,none⟩)):=by
    unfold fptrs
    rw[List.getElem?_map,List.getElem?_range (by omega)]
    rfl
   have:=hrow.1.cells rfl _ _ e1
   rwa[Addr.add_lit,Nat.zero_add] at this
  ·have:=q.2.1;omega
end
end Go.Proofs.YtaangaogmnlljaaGreatDoor.Kn
namespace Go.Proofs.YtaangaogmnlljaaGreatDoor.Kn
open Go.RowKit Asm
def GAgree (G:KG) (tb:Int→Nat) (fb:Int→Nat→Nat) (l:List Run):Prop:= ∀r∈l,tb r.id=G.tb r.id∧ ∀i,i<r.l.length→fb r.id i=G.fb r.id i
def KO2 (F:Fixed) (w:World) (own:Own) (G:KG) (l:List Run) (M:Mach) (n:Nat) (w':World):Prop:= ∃tb fb,GAgree G tb fb l∧KO F w own { G with tb:=tb,fb:=fb} M n w'
section
variable {F:Fixed} {w:World} {own:Own} {G:KG} {M:Mach} {n:Nat}
theorem KO.two {w':World} {l:List Run} (h:KO F w own G M n w'):KO2 F w own G l M n w':=⟨G.tb,G.fb,fun _ _=>⟨rfl,fun _ _=>rfl⟩,h⟩
theorem FAt.grow {tb:Int→Nat} {fb:Int→Nat→Nat} {i:Nat} {t:Option Int} {b o:Nat} (fa:FAt G M i t b o) (hg:GAgree G tb fb M.runs):FAt { G with tb:=tb,fb:=fb} M i t b o:=by
 cases t with
 |none=>exact fa
 |some id=>
  obtain ⟨r,h1,h2,h3,h4⟩:=fa
  obtain ⟨hm,hid⟩:=runOf_mem h1
  have hl:0<r.l.length:=List.length_pos_iff.2 h2
  refine ⟨r,h1,h2,?_,h4⟩
  rw[h3]
  have:=(hg r hm).2 (r.l.length - 1) (by omega)
  rw[hid] at this
  exact this.symm
end
end Go.Proofs.YtaangaogmnlljaaGreatDoor.Kn
namespace Go.Proofs.YtaangaogmnlljaaGreatDoor.Kn
open Go.RowKit Asm
section
variable {F:Fixed} {w:World} {own:Own} {G:KG} {M:Mach} {n:Nat}
theorem fptrs_agree {fb fb':Int→Nat→Nat} {r:Run} (h: ∀i,i<r.l.length→fb' r.id i=fb r.id i):fptrs fb' r=fptrs fb r:=by
 unfold fptrs
 apply List.map_congr_left
 intro i hi
 rw[h i (List.mem_range.1 hi)]
theorem RunP.grow {tb tb':Int→Nat} {fb fb':Int→Nat→Nat} {r:Run} (h:RunP w own tb fb r n) (h1:tb' r.id=tb r.id) (h2: ∀i,i<r.l.length→fb' r.id i=fb r.id i):RunP w own tb' fb' r n:=by
 obtain ⟨lv,ho,hr⟩:=h.obj
 refine ⟨by rw[h1];exact h.mine,h.id,h.woken,h.few,⟨lv,by rw[h1];exact ho,by rw[fptrs_agree h2];exact hr⟩,fun i fr hi=>?_⟩
 rw[h2 i (List.getElem?_eq_some_iff.1 hi).1]
 exact h.frs i fr hi
theorem PRuns.grow {th:Nat} {tb tb':Int→Nat} {fb fb':Int→Nat→Nat} {l:List Run} (h:PRuns w own th tb fb l n) (hg: ∀r∈l,tb' r.id=tb r.id∧ ∀i,i<r.l.length→fb' r.id i=fb r.id i):PRuns w own th tb' fb' l n:=by
 obtain ⟨N,hm,hN⟩:=h.map
 refine ⟨h.nod,h.mine,⟨N,hm.same fun id _=>?_,hN⟩,fun r hr=>(h.each r hr).grow (hg r hr).1 (hg r hr).2⟩
 cases e:runOf l id with
 |none=>rfl
 |some r=>
  obtain ⟨hm,hid⟩:=runOf_mem e
  have:=(hg r hm).1
  rw[hid] at this
  simp[this]
def own2 (own:Own) (n nb:Nat) (t1 t2:Tag):Own:=fun b=>if b<n then own b else if b=nb then t1 else t2
theorem own2_old {n nb b:Nat} {t1 t2:Tag} (h:b<n):own2 own n nb t1 t2 b=own b:=if_pos h
theorem own2_new {n nb:Nat} {t1 t2:Tag} (h:n≤nb):own2 own n nb t1 t2 nb=t1:=by
 unfold own2;rw[if_neg (by omega),if_pos rfl]
theorem own2_rest {n nb b:Nat} {t1 t2:Tag} (h:n≤b) (hne:b≠nb):own2 own n nb t1 t2 b=t2:=by
 unfold own2;rw[if_neg (by omega),if_neg hne]
theorem KernP.push (h:KernP F w own G M n) {id:Int} {r:Run} (hr:runOf M.runs id=some r) (hl:r.l.length<100) {fr:Fr} {n':Nat} (hn:n≤n') (hok:FrOk n' fr.f) (hbk:fr.f.back= []) (hnum:0≤fr.num∧fr.num<1000) {lv:Value} (hlv:w.cell? ⟨G.tb id,1,none⟩=some lv) {w4:World} {v:Value} {nb:Nat} (hk:Keeps (fun b=>lv.ownBlock=some b) w w4) (hnb:w.heap.size≤nb) (hob:w4.heap[nb]?=some (.cells (frC fr.f (.slice none 0 0)++ [Value.bool fr.lib,Value.int .i64 fr.num]).toArray 284 (0,0))) (hr4:w4.ownsRow 0 282 1 v (r.l.length+1) (fptrs G.fb r++ [.pointer (some ⟨nb,0,none⟩)])) (hv: ∀b,v.ownBlock=some b→lv.ownBlock=some b∨w.heap.size≤b):
  KO2 F w own G M.runs { M with runs:=setRun M.runs { r with l:=r.l++ [fr]}} n' (w4.setCell ⟨G.tb id,1,none⟩ v):=by
 obtain ⟨hm,hid⟩:=runOf_mem hr
 subst hid
 have hP:=h.runs.each r hm
 obtain ⟨lv',ho,hrow⟩:=hP.obj
 have hlv':lv'=lv:=by rw[blk_cell ho] at hlv;exact Option.some.inj hlv
 subst hlv'
 have htl:G.tb r.id<w.heap.size:=blk_in ho
 have hvn: ∀b,v.ownBlock=some b→b≠nb:=fun b hb e=>by
  obtain ⟨cur,hc⟩:=Asm.row_block hr4 hb
  rw[e,hob] at hc
  injection hc with hc
  injection hc with _ hc
  exact absurd hc (by decide)
 obtain ⟨fb,hfb⟩: ∃fb:Int→Nat→Nat,fb=fun x i=>if x=r.id∧i=r.l.length then nb else G.fb x i:=⟨_,rfl⟩
 have fb_old: ∀x i,(x≠r.id∨i≠r.l.length)→fb x i=G.fb x i:=fun x i hx=>by
  rw[hfb]
  exact if_neg fun e=>hx.elim (fun k=>k e.1) fun k=>k e.2
 have fb_new:fb r.id r.l.length=nb:=by rw[hfb];exact if_pos ⟨rfl,rfl⟩
 have hga: ∀x∈M.runs,G.tb x.id=G.tb x.id∧ ∀i,i<x.l.length→fb x.id i=G.fb x.id i:=fun x hx=>⟨rfl,fun i hi=>fb_old _ _ (by
  by_cases e:x.id=r.id
  ·have:x=r:=by
    have h1:=runOf_in h.runs.nod hx
    rw[e,hr] at h1
    exact (Option.some.inj h1).symm
   subst this
   exact Or.inr (by omega)
  ·exact Or.inl e)⟩
 obtain ⟨own',hown⟩: ∃own':Own,own'=own2 own w.heap.size nb (.fr r.id r.l.length) (.row r.id):=⟨_,rfl⟩
 have hold: ∀b,b<w.heap.size→own' b=own b:=fun b hb=>by rw[hown];exact own2_old hb
 have hT:Touch (fun t=>t= .row r.id) w w4 own own':=⟨hk.mono fun b hb=>hrow.2 b hb,hold⟩
 have hT2:Touch (fun t=>t= .thr r.id) w4 (w4.setCell ⟨G.tb r.id,1,none⟩ v) own' own':=⟨(Keeps.refl _ _).setCell (p:=⟨G.tb r.id,1,none⟩) ((hold _ htl).trans hP.mine) _,fun _ _=>rfl⟩
 have hT3:Touch (fun t=>t= .row r.id∨t= .thr r.id) w (w4.setCell ⟨G.tb r.id,1,none⟩ v) own own':=(hT.mono fun _ e=>Or.inl e).trans (hT2.mono fun _ e=>Or.inr e)
 have ho4:w4.heap[G.tb r.id]?=some (.cells #[.int .u64 r.id,lv', .int .u64 r.woken] 281 (0,0)):=(hT.at (t:= .thr r.id) nofun hP.mine htl).1.trans ho
 have hnbt:nb≠G.tb r.id:=by omega
 have hpr:PRuns (w4.setCell ⟨G.tb r.id,1,none⟩ v) own' G.th G.tb fb (Kn.setRun M.runs { r with l:=r.l++ [fr]}) n':=by
  refine (h.runs.grow hga).setRun (r':={ r with l:=r.l++ [fr]}) hr rfl hn hT3 (fun e=>(by rcases e with e|e<;>cases e)) (fun x hx=>⟨fun e=>(by rcases e with e|e<;>cases e;exact hx rfl),fun e=>(by rcases e with e|e<;>cases e;exact hx rfl),fun _=>⟨fun e=>(by rcases e with e|e<;>cases e),fun e=>(by rcases e with e|e<;>cases e)⟩⟩) ⟨(hold _ htl).trans hP.mine,hP.id,hP.woken,by simp;omega,⟨v,?_,?_,?_⟩,fun i fx hi=>?_⟩
  ·rw[set_block ho4]
   rfl
  ·have e1:fptrs fb { r with l:=r.l++ [fr]}=fptrs G.fb r++ [.pointer (some ⟨nb,0,none⟩)]:=by
    unfold fptrs
    simp only[List.length_append,List.length_singleton,List.range_succ,List.map_append,List.map_cons,List.map_nil]
    rw[fb_new]
    congr 1
    apply List.map_congr_left
    intro i hi
    rw[fb_old _ _ (Or.inr (by have:=List.mem_range.1 hi;omega))]
   show World.ownsRow _ 0 _ 1 v (r.l++ [fr]).length _
   rw[e1,List.length_append,List.length_singleton]
   refine Asm.ownsRow_of_block hr4 fun c hc=>set_other fun e2=>?_
   rcases hv c hc with h1|h1
   ·have:=hrow.2 c h1
    have e3:c=G.tb r.id:=e2
    rw[e3,hP.mine] at this
    cases this
   ·have e3:c=G.tb r.id:=e2
    omega
  ·intro c hc
   rcases hv c hc with h1|h1
   ·exact (hold c (hrow.lt h1)).trans (hrow.2 c h1)
   ·rw[hown];exact own2_rest h1 (hvn c hc)
  ·simp only at hi
   by_cases hlt:i<r.l.length
   ·rw[List.getElem?_append_left hlt] at hi
    rw[fb_old _ _ (Or.inr (by omega))]
    exact ((hP.frs i fx hi).move hT3 (fun e=>by rcases e with e|e<;>cases e) (fun e=>by rcases e with e|e<;>cases e)).more hn
   ·have hi2:i=r.l.length:=by
     have:=(List.getElem?_eq_some_iff.1 hi).1
     simp at this
     omega
    subst hi2
    rw[List.getElem?_append_right (Nat.le_refl _),Nat.sub_self] at hi
    have hfx:fr=fx:=Option.some.inj hi
    subst hfx
    rw[fb_new]
    refine ⟨by rw[hown];exact own2_new hnb,hok,hnum, .slice none 0 0,(set_other hnbt).trans hob,?_⟩
    rw[hbk]
    exact ⟨World.ownsRow_nil _ _ _ _,fun c hc=>by cases hc⟩
 exact ⟨G.tb,fb,fun x hx=>hga x hx,own',h.on_runs (tb:=G.tb) (fb:=fb) (hT3.mono fun t e=>by rcases e with e|e<;>(rw[e];trivial)) hn hpr,hT3.mono fun t e=>by rcases e with e|e<;>(rw[e];nofun)⟩
set_option maxRecDepth 100000 in
theorem KernP.spawn (h:KernP F w own G M n) {id:Int} (hid:id≠0∧U64 id) (hno:runOf M.runs id=none) {fr:Fr} (hok:FrOk (n+1) fr.f) (hbk:fr.f.back= []) (hnum:0≤fr.num∧fr.num<1000) (hn:n≤1000000) {w4:World} {lv:Value} {nb nt:Nat} (hk:Below w.heap.size w w4) (hnb:w.heap.size≤nb) (hnt:w.heap.size≤nt) (hob:w4.heap[nb]?=some (.cells (frC fr.f (.slice none 0 0)++ [Value.bool fr.lib,Value.int .i64 fr.num]).toArray 284 (0,0)))
  (hot:w4.heap[nt]?=some (.cells #[.int .u64 id,lv, .int .u64 0] 281 (0,0))) (hr4:w4.ownsRow 0 282 1 lv 1 [.pointer (some ⟨nb,0,none⟩)]) (hv: ∀b,lv.ownBlock=some b→w.heap.size≤b):
  ∃w5,(Instr.mapUpdate 156 (.map (some G.th)) (.int .u64 id) (.pointer (some ⟨nt,0,none⟩))).run Tryz.prog w4= .ok () w5∧KO2 F w own G M.runs { M with runs:=M.runs++ [⟨id,[fr],0⟩]} (n+1) w5∧ ∀b,own b≠ .map→b<w.heap.size→w5.heap[b]?=w4.heap[b]?:=by
 have hvn: ∀b,lv.ownBlock=some b→b≠nb∧b≠nt:=fun b hb=>by
  obtain ⟨cur,hc⟩:=Asm.row_block hr4 hb
  refine ⟨fun e=>?_,fun e=>?_⟩
  ·rw[e,hob] at hc
   injection hc with hc
   injection hc with _ hc
   exact absurd hc (by decide)
  ·rw[e,hot] at hc
   injection hc with hc
   injection hc with _ hc
   exact absurd hc (by decide)
 have hnn:nb≠nt:=fun e=>by
  rw[e,hot] at hob
  injection hob with hob
  injection hob with _ hob
  exact absurd hob (by decide)
 obtain ⟨N,hm,hN⟩:=h.runs.map
 have hm4:=hm.of_block (hk.block G.th hm.lt)
 obtain ⟨w5,hrun,hM,hturn⟩:=hm4.store (S:=ptrs) (by unfold maxLen;omega) Tryz.underlying156 hid.2 nt
 have hg:=hturn.grown
 obtain ⟨fb,hfb⟩: ∃fb:Int→Nat→Nat,fb=fun x i=>if x=id∧i=0 then nb else G.fb x i:=⟨_,rfl⟩
 obtain ⟨tb,htb⟩: ∃tb:Int→Nat,tb=fun x=>if x=id then nt else G.tb x:=⟨_,rfl⟩
 have hne: ∀x∈M.runs,x.id≠id:=fun x hx e=>by
  have h1:=runOf_in h.runs.nod hx
  rw[e,hno] at h1
  cases h1
 have hga: ∀x∈M.runs,tb x.id=G.tb x.id∧ ∀i,i<x.l.length→fb x.id i=G.fb x.id i:=fun x hx=>⟨by rw[htb];exact if_neg (hne x hx),fun i _=>by rw[hfb];exact if_neg fun e=>hne x hx e.1⟩
 obtain ⟨own',hown⟩: ∃own':Own,own'=fun b=>if b<w.heap.size then own b else if b=nb then .fr id 0 else if b=nt then .thr id else .row id:=⟨_,rfl⟩
 have hold: ∀b,b<w.heap.size→own' b=own b:=fun b hb=>by rw[hown];exact if_pos hb
 have hT:Touch (fun _=>False) w w4 own own':=⟨Keeps.ofBelow hk,hold⟩
 have hth:own' G.th= .map:=(hold _ hm.lt).trans h.runs.mine
 have k5:Touch (fun t=>t= .map) w4 w5 own' own':=⟨(Keeps.refl _ w4).grown hg fun k hk=>by injection hk with hk;rw[←hk];exact hth,fun _ _=>rfl⟩
 have kT:Touch (fun t=>t= .map) w w5 own own':=(hT.mono fun _ e=>e.elim).trans k5
 have onb:own' nb= .fr id 0:=by rw[hown];show (if nb<w.heap.size then own nb else if nb=nb then _ else _)=_;rw[if_neg (by omega),if_pos rfl]
 have ont:own' nt= .thr id:=by rw[hown];show (if nt<w.heap.size then own nt else if nt=nb then _ else if nt=nt then _ else _)=_;rw[if_neg (by omega),if_neg (Ne.symm hnn),if_pos rfl]
 have onr: ∀b,lv.ownBlock=some b→own' b= .row id:=fun b hb=>by
  have h1:=hv b hb
  have h2:=hvn b hb
  rw[hown];simp only;rw[if_neg (by omega),if_neg h2.1,if_neg h2.2]
 have hob5:w5.heap[nb]?=some (.cells (frC fr.f (.slice none 0 0)++ [Value.bool fr.lib,Value.int .i64 fr.num]).toArray 284 (0,0)):=(k5.at (t:= .fr id 0) nofun onb (blk_in hob)).1.trans hob
 have hot5:w5.heap[nt]?=some (.cells #[.int .u64 id,lv, .int .u64 0] 281 (0,0)):=(k5.at (t:= .thr id) nofun ont (blk_in hot)).1.trans hot
 have hr5:PRow w5 own' (.row id) 282 1 lv 1 [.pointer (some ⟨nb,0,none⟩)]:=PRow.move (own:=own') ⟨hr4,onr⟩ k5 nofun
 have hold5:=(h.runs.grow hga)
 have hpr:PRuns w5 own' G.th tb fb (M.runs++ [⟨id,[fr],0⟩]) (n+1):=by
  refine ⟨?_,hth,⟨N+1,hM.same fun x hx=>?_,by omega⟩,fun r hr=>?_⟩
  ·rw[List.map_append,List.nodup_append]
   refine ⟨h.runs.nod,by simp,fun a ha b hb=>?_⟩
   simp at hb
   subst hb
   obtain ⟨y,hy,rfl⟩:=List.mem_map.1 ha
   exact hne y hy
  ·unfold updG
   by_cases e:x=id
   ·subst e
    rw[if_pos rfl]
    have:runOf (M.runs++ [⟨x,[fr],0⟩]) x=some ⟨x,[fr],0⟩:=by
     unfold runOf at hno ⊢
     rw[List.find?_append,hno]
     simp
    rw[this,htb]
    simp
   ·rw[if_neg e]
    have:runOf (M.runs++ [⟨id,[fr],0⟩]) x=runOf M.runs x:=by
     unfold runOf
     rw[List.find?_append]
     have e2:(id==x)=false:=by simp;exact fun e3=>e e3.symm
     simp[e2]
    rw[this,htb]
    simp[e]
  ·rcases List.mem_append.1 hr with hr|hr
   ·exact ((hold5.each r hr).move kT nofun nofun (fun _=>nofun) (fun _=>nofun)).more (Nat.le_succ n)
   ·simp at hr
    subst hr
    have e1:tb id=nt:=by rw[htb];exact if_pos rfl
    have e2:fb id 0=nb:=by rw[hfb];exact if_pos ⟨rfl,rfl⟩
    refine ⟨by rw[e1];exact ont,hid,u64_0,by simp,⟨lv,by rw[e1];exact hot5,?_⟩,fun i fx hi=>?_⟩
    ·have e3:fptrs fb ⟨id,[fr],0⟩= [.pointer (some ⟨nb,0,none⟩)]:=by
      unfold fptrs
      simp[List.range_succ,e2]
     rw[e3]
     exact hr5
    ·have hi2:i=0:=by
      have:=(List.getElem?_eq_some_iff.1 hi).1
      simp at this
      exact this
     subst hi2
     have hfx:fr=fx:=Option.some.inj hi
     subst hfx
     rw[e2]
     refine ⟨onb,hok,hnum, .slice none 0 0,hob5,?_⟩
     rw[hbk]
     exact ⟨World.ownsRow_nil _ _ _ _,fun c hc=>by cases hc⟩
 refine ⟨w5,hrun,⟨tb,fb,hga,own',h.on_runs (tb:=tb) (fb:=fb) (kT.mono fun t e=>by rw[e];trivial) (Nat.le_succ n) hpr,kT.mono fun t e=>by rw[e];nofun⟩,fun b hb hl=>(k5.at (t:=own b) hb (hold b hl) (Nat.lt_of_lt_of_le hl hk.size)).1⟩
theorem KO2.trans {w1 w2:World} {M1 M2:Mach} {n1 n2:Nat} {l:List Run} (h:KO2 F w own G l M1 n1 w1) (k: ∀own1 tb fb,GAgree G tb fb l→KernP F w1 own1 { G with tb:=tb,fb:=fb} M1 n1→KO2 F w1 own1 { G with tb:=tb,fb:=fb} M1.runs M2 n2 w2) (hl: ∀r∈l,∃r'∈M1.runs,r'.id=r.id∧r.l.length≤r'.l.length):KO2 F w own G l M2 n2 w2:=by
 obtain ⟨tb,fb,hg,own1,h1,t1⟩:=h
 obtain ⟨tb2,fb2,hg2,hk⟩:=k own1 tb fb hg h1
 refine ⟨tb2,fb2,fun r hr=>?_,KO.trans t1 hk⟩
 obtain ⟨r',hr',e,hle⟩:=hl r hr
 have a:=hg r hr
 have b:=hg2 r' hr'
 rw[e] at b
 exact ⟨b.1.trans a.1,fun i hi=>(b.2 i (by omega)).trans (a.2 i hi)⟩
end
end Go.Proofs.YtaangaogmnlljaaGreatDoor.Kn
namespace Go.Proofs.YtaangaogmnlljaaGreatDoor.Kn
open Go.RowKit Asm
def Retag (own own':Own):Prop:= ∀b,own b≠ .ev→own' b=own b
theorem Retag.at {own own':Own} (h:Retag own own') {t:Tag} {b:Nat} (hb:own b=t) (ht:t≠ .ev):own' b=t:=(h b (by rw[hb];exact ht)).trans hb
section
variable {F:Fixed} {w:World} {own own':Own} {G:KG} {M:Mach} {n:Nat}
theorem PRow.re {t:Tag} {e:TypeId} {size k:Nat} {v:Value} {xs:List Value} (h:PRow w own t e size v k xs) (r:Retag own own') (ht:t≠ .ev):PRow w own' t e size v k xs:=⟨h.1,fun b hb=>r.at (h.2 b hb) ht⟩
theorem FrP.re {id:Int} {i b:Nat} {fr:Fr} (h:FrP w own id i b fr n) (r:Retag own own'):FrP w own' id i b fr n:=by
 obtain ⟨bv,ho,hr⟩:=h.obj
 exact ⟨r.at h.mine nofun,h.ok,h.num,bv,ho,hr.re r nofun⟩
theorem RunP.re {tb:Int→Nat} {fb:Int→Nat→Nat} {x:Run} (h:RunP w own tb fb x n) (r:Retag own own'):RunP w own' tb fb x n:=by
 obtain ⟨lv,ho,hr⟩:=h.obj
 exact ⟨r.at h.mine nofun,h.id,h.woken,h.few,⟨lv,ho,hr.re r nofun⟩,fun i fr hi=>(h.frs i fr hi).re r⟩
theorem PRuns.re {th:Nat} {tb:Int→Nat} {fb:Int→Nat→Nat} {l:List Run} (h:PRuns w own th tb fb l n) (r:Retag own own'):PRuns w own' th tb fb l n:=
 ⟨h.nod,r.at h.mine nofun,h.map,fun x hx=>(h.each x hx).re r⟩
theorem PWk.re {gW:Nat} {l:List Wkr} (h:PWk w own gW l n) (r:Retag own own'):PWk w own' gW l n:=by
 obtain ⟨h0,L,h1,h2,h3⟩:=h
 exact ⟨r.at h0 nofun,L,h1,h2,fun i p hp=>⟨(h3 i p hp).1,(h3 i p hp).2.re r nofun⟩⟩
theorem KernP.re (h:KernP F w own G M n) (r:Retag own own') {C:Array Value} (ho:w.heap[G.K]?=some (.cells C 159 (0,0))) (hc:C[1020]?=some (.slice none 0 0)):KernP F w own' G M n:=by
 refine ⟨h.fok,h.num,⟨r.at h.k.mine nofun,?_⟩,⟨h.fix.lib.re r nofun,h.fix.calls.re r nofun,h.fix.code.re r nofun⟩,?_,?_,?_,?_,?_,?_,?_,h.runs.re r,h.wk.re r⟩
 ·obtain ⟨C',ov,ho',hC,hr⟩:=h.k.obj
  have e:C'=C:=by
   rw[ho] at ho'
   injection ho' with ho'
   injection ho' with ho' _
   exact ho'.symm
  subst e
  have e2:ov= .slice none 0 0:=by
   have:=hC.out
   rw[hc] at this
   exact (Option.some.inj this).symm
  subst e2
  exact ⟨C',_,ho',hC,hr.1,fun b hb=>by cases hb⟩
 ·obtain ⟨gc,gw,hP,hO⟩:=h.mem
  exact ⟨gc,gw,hP,fun b hb=>r.at (hO b hb) nofun⟩
 ·obtain ⟨v,hP,hO⟩:=h.alc
  exact ⟨v,hP,fun b hb=>r.at (hO b hb) nofun⟩
 ·obtain ⟨hb,hm,v,ab,N,K,hP,hO,h2⟩:=h.clk
  exact ⟨hb,hm,v,ab,N,K,hP,fun b hb=>r.at (hO b hb) nofun,h2⟩
 ·obtain ⟨gr,hP,hO⟩:=h.ring
  exact ⟨gr,hP,fun b hb=>r.at (hO b hb) nofun⟩
 ·obtain ⟨gl,mb,B,N,hP,hO,h2⟩:=h.wq
  exact ⟨gl,mb,B,N,hP,fun b hb=>r.at (hO b hb) nofun,h2⟩
 ·obtain ⟨gt,N,hP,hO,h2⟩:=h.tab
  exact ⟨gt,N,hP,fun b hb=>r.at (hO b hb) nofun,h2⟩
 ·obtain ⟨go,N,hP,hO,h2⟩:=h.obj
  exact ⟨go,N,hP,fun b hb=>r.at (hO b hb) nofun,h2⟩
structure Aside (w w':World) (own own':Own):Prop where
 keeps:Keeps (fun b=>own b≠ .other) w w'
 own: ∀b,b<w.heap.size→own b= .other→own' b= .other
theorem Aside.refl (w:World) (own:Own):Aside w w own own:=⟨Keeps.refl _ w,fun _ _ h=>h⟩
theorem Aside.of {w w':World} {own own':Own} (h:Touch (fun t=>t≠ .other) w w' own own'):Aside w w' own own':=⟨h.keeps,fun b hb e=>(h.own b hb).trans e⟩
theorem Aside.trans {w1 w2 w3:World} {o1 o2 o3:Own} (h:Aside w1 w2 o1 o2) (k:Aside w2 w3 o2 o3):Aside w1 w3 o1 o3:=
 ⟨h.keeps.trans k.keeps fun i hi=>by
  by_cases hl:i<w1.heap.size
  ·exact Or.inl fun e=>hi (h.own i hl e)
  ·exact Or.inr (by omega),fun b hb e=>k.own b (Nat.lt_of_lt_of_le hb h.keeps.size) (h.own b hb e)⟩
end
end Go.Proofs.YtaangaogmnlljaaGreatDoor.Kn
namespace Go.Proofs.YtaangaogmnlljaaGreatDoor.Kn
open Go.RowKit Asm
section
variable {F:Fixed} {w:World} {own:Own} {G:KG} {M:Mach} {n:Nat}
def BoxAt (w:World) (own:Own) (b:Nat) (cs:Array Value) (t:TypeId):Prop:=w.heap[b]?=some (.cells cs t (0,0))∧own b= .other
theorem BoxAt.move {w':World} {own':Own} {b:Nat} {cs:Array Value} {t:TypeId} (h:BoxAt w own b cs t) (k:Touch (fun t=>t≠ .other) w w' own own'):BoxAt w' own' b cs t:=
 have q:=k.other h.2 (blk_in h.1)
 ⟨q.1.trans h.1,q.2.1⟩
theorem BoxAt.cells {b:Nat} {cs:Array Value} {t:TypeId} (h:BoxAt w own b cs t):(∀j,w.frozen? ⟨b,j,none⟩=false)∧ ∀j,w.cell? ⟨b,j,none⟩=cs[j]?:=⟨blk_frozen h.1,blk_cell h.1⟩
theorem BoxAt.put {b k:Nat} {cs:Array Value} {t:TypeId} (h:BoxAt w own b cs t) (v:Value):BoxAt (w.setCell ⟨b,k,none⟩ v) own b (cs.setIfInBounds k v) t:=⟨set_block h.1 v,h.2⟩
theorem BoxAt.far {b c k:Nat} {cs:Array Value} {t:TypeId} (h:BoxAt w own b cs t) (hne:b≠c) (v:Value):BoxAt (w.setCell ⟨c,k,none⟩ v) own b cs t:=⟨(set_other hne).trans h.1,h.2⟩
theorem BoxAt.touch {b k:Nat} {cs:Array Value} {t:TypeId} (h:BoxAt w own b cs t) (v:Value):Touch (· = .other) w (w.setCell ⟨b,k,none⟩ v) own own:=⟨(Keeps.refl _ w).setCell (p:=⟨b,k,none⟩) h.2 _,fun _ _=>rfl⟩
theorem KernP.boxed (h:KernP F w own G M n) {W:World} {b:Nat} (hk:Keeps (fun k=>k=b) w W) (ho:own b= .other):KernP F W own G M n:=h.move ⟨hk.mono fun k e=>by rw[e];exact ho,fun _ _=>rfl⟩
theorem Touch.boxed {w1 W:World} {own1:Own} {b:Nat} (t:Touch (fun t=>t≠ .other) w w1 own own1) (hk:Keeps (fun k=>k=b) w1 W) (hb:w.heap.size≤b):Touch (fun t=>t≠ .other) w W own own1:=⟨t.keeps.trans hk fun k e=>Or.inr (by rw[e];exact hb),t.own⟩
theorem BoxAt.stay {b c:Nat} {cs ds:Array Value} {t u:TypeId} (h:BoxAt w own b cs t) (hc:BoxAt w own c ds u) (hne:b≠c) {v0 v1 v2 v3 v4 v5 v6:Value} {W:World} (hW:W=((((((w.setCell ⟨c,0,none⟩ v0).setCell ⟨c,1,none⟩ v1).setCell ⟨c,2,none⟩ v2).setCell ⟨c,3,none⟩ v3).setCell ⟨c,4,none⟩ v4).setCell ⟨c,5,none⟩ v5).setCell ⟨c,6,none⟩ v6):BoxAt W own b cs t:=by
 subst hW
 exact (((((((h.far hne v0).far hne v1).far hne v2).far hne v3).far hne v4).far hne v5).far hne v6)
end
end Go.Proofs.YtaangaogmnlljaaGreatDoor.Kn
namespace Go.Proofs.YtaangaogmnlljaaGreatDoor.Kn
open Go.RowKit Asm
section
variable {F:Fixed} {w:World} {own:Own} {G:KG} {M:Mach} {n:Nat}
def frame0 (place r0:Int):Frame:={ pc:=place,r:=(List.replicate 32 0).set 0 r0}
theorem frame0_ok {place r0:Int} {n:Nat} (hp:0≤place∧place≤4000) (hr:U64 r0):FrOk n (frame0 place r0):=by
 refine ⟨by simp[frame0],fun x hx=>?_,⟨hp.1,by show place≤_;omega⟩,by simp[frame0],fun x hx=>by simp[frame0] at hx⟩
 rcases List.mem_or_eq_of_mem_set hx with hx|hx
 ·rw[(List.mem_replicate.1 hx).2];exact u64_0
 ·rw[hx];exact hr
theorem one_max:1≤maxLen:=by unfold maxLen;omega
theorem born_u64 {l:List TRow} {home id:Int} {l':List TRow} (e:bornT l home=some (id,l')):U64 id:=by
 unfold bornT at e
 split at e
 ·cases e
 ·injection e with e
  injection e with e _
  rw[←e]
  unfold U64
  omega
set_option maxRecDepth 100000 in
theorem kborn_any (h:KernP F w own G M n) (hI:Inv M) (place r0:Int) (hp:0≤place∧place≤4000) (hr:U64 r0) (hn:n≤100000):
  Calls Tryz.prog 84 #[.pointer (some ⟨G.K,0,none⟩), .int .i64 place, .int .u64 r0] w fun e w'=>e= .returned (.int .u64 (bornK M place r0).1)∧KO2 F w own G M.runs (bornK M place r0).2 (n+2) w':=by
 have k8:=h.acell
 have HG:=Lib.hid (kget h 1 (by decide))
 have hlt: ∀p a m,getA M.alc M.mem 1 64=some (p,a,m)→p≤65536:=fun p a m e=>h.get_lt e
 have HLt:=Lib.hid hlt
 have HBo:=Lib.hid h.born
 have HI:=Lib.hid hI
 have H:=Lib.hid h
 have HP:=Lib.hid hp
 have HR:=Lib.hid hr
 have HN:=Lib.hid hn
 unfold bornK
 clear hlt h hI hp hr hn
 generalize getA M.alc M.mem 1 64=g at*
 cases g with
 |none=>
  go_enter Tryz.func84,Tryz.ntmps84
  go_wp2_with fail
  refine HG.out.mono ?_
  rintro e w1 ⟨⟨ev,rfl,te,xe,rfl⟩,hb⟩
  have HB:=Lib.hid hb
  clear hb
  go_wp2_with fail
  go_ret
  exact ⟨rfl,((KO.below H.out HB.out).more (by omega)).two⟩
 |some g=>
  obtain ⟨home,alc,mem⟩:=g
  simp only at HG ⊢
  have hhome:=HLt.out _ _ _ rfl
  have hhI:(0:Int)≤(home:Int)∧(home:Int)≤65536:=by omega
  have hcv:IntKind.u64.wrap (home:Int)=(home:Int):=by rw[IntKind.wrap_u64];omega
  have hu:U64 (home:Int):=⟨hhI.1,by omega⟩
  have HU:=Lib.hid hu
  have HHm:=Lib.hid hhome
  obtain ⟨bt,hbt⟩: ∃bt,bt=bornT M.tab home:=⟨_,rfl⟩
  have HBt:=Lib.hid hbt
  rw[←hbt]
  clear hhome hu hbt
  go_enter Tryz.func84,Tryz.ntmps84
  go_wp2_with fail
  refine HG.out.mono ?_
  rintro e w1 ⟨rfl,own1,h1,t1⟩
  have kt:=h1.tcell
  have HB:=Lib.hid (kborn h1 home HU.out (by have:=HN.out;omega))
  simp only at HB
  rw[←HBt.out] at HB
  have HT1:=Lib.hid t1
  clear t1 h1
  cases bt with
  |none=>
   go_wp2_with fail
   refine HB.out.mono ?_
   rintro e w2 ⟨⟨ev,rfl,te,xe,rfl⟩,own2,h2,t2⟩
   have k8:=h2.acell
   have HPt:=Lib.hid (kput h2 home (by have:=HHm.out;omega))
   have HT2:=Lib.hid (HT1.out.trans t2)
   clear h2 t2
   go_wp2_with fail
   refine HPt.out.mono ?_
   rintro e w3 ⟨⟨ev,rfl⟩,hk⟩
   have HK:=Lib.hid (KO.trans HT2.out hk)
   clear hk
   go_wp2_with fail
   go_ret
   exact ⟨rfl,(HK.out.more (by omega)).two⟩
  |some q=>
   obtain ⟨id,tab⟩:=q
   go_wp2_with fail
   refine HB.out.mono ?_
   rintro e w2 ⟨rfl,own2,h2,t2⟩
   have HT2:=Lib.hid (HT1.out.trans t2)
   have hbn:=HBo.out home id tab HBt.out.symm
   have hno:runOf M.runs id=none:=by
    cases e:runOf M.runs id with
    |none=>rfl
    |some r=>
     have:=(HI.out.has id).1 (by rw[e];rfl)
     obtain ⟨p,hp,-⟩:=this
     rw[hbn.2.1] at hp
     cases hp
   have kh:=h2.hcell
   have hK:=h2.klt
   have e36:(frC (frame0 place r0) (.slice none 0 0)++ [Value.bool false,Value.int .i64 0]).toArray=#[.int .i64 place, .int .u64 r0, .int .u64 0, .int .u64 0, .int .u64 0, .int .u64 0, .int .u64 0, .int .u64 0, .int .u64 0, .int .u64 0, .int .u64 0, .int .u64 0, .int .u64 0, .int .u64 0, .int .u64 0, .int .u64 0, .int .u64 0, .int .u64 0, .int .u64 0, .int .u64 0, .int .u64 0, .int .u64 0, .int .u64 0, .int .u64 0, .int .u64 0, .int .u64 0, .int .u64 0, .int .u64 0, .int .u64 0, .int .u64 0, .int .u64 0, .int .u64 0, .int .u64 0, .slice none 0 0, .bool false, .int .i64 0]:=rfl
   have hb1:Below w2.heap.size w2 (w2.alloc (.cells #[.int .i64 place, .int .u64 r0, .int .u64 0, .int .u64 0, .int .u64 0, .int .u64 0, .int .u64 0, .int .u64 0, .int .u64 0, .int .u64 0, .int .u64 0, .int .u64 0, .int .u64 0, .int .u64 0, .int .u64 0, .int .u64 0, .int .u64 0, .int .u64 0, .int .u64 0, .int .u64 0, .int .u64 0, .int .u64 0, .int .u64 0, .int .u64 0, .int .u64 0, .int .u64 0, .int .u64 0, .int .u64 0, .int .u64 0, .int .u64 0, .int .u64 0, .int .u64 0, .int .u64 0, .slice none 0 0, .bool false, .int .i64 0] 284)):=(Below.refl _ _).alloc (Nat.le_refl _) _
   have hn1:=heap_alloc_new w2 (.cells #[.int .i64 place, .int .u64 r0, .int .u64 0, .int .u64 0, .int .u64 0, .int .u64 0, .int .u64 0, .int .u64 0, .int .u64 0, .int .u64 0, .int .u64 0, .int .u64 0, .int .u64 0, .int .u64 0, .int .u64 0, .int .u64 0, .int .u64 0, .int .u64 0, .int .u64 0, .int .u64 0, .int .u64 0, .int .u64 0, .int .u64 0, .int .u64 0, .int .u64 0, .int .u64 0, .int .u64 0, .int .u64 0, .int .u64 0, .int .u64 0, .int .u64 0, .int .u64 0, .int .u64 0, .slice none 0 0, .bool false, .int .i64 0] 284)
   have hs1:(w2.alloc (.cells #[.int .i64 place, .int .u64 r0, .int .u64 0, .int .u64 0, .int .u64 0, .int .u64 0, .int .u64 0, .int .u64 0, .int .u64 0, .int .u64 0, .int .u64 0, .int .u64 0, .int .u64 0, .int .u64 0, .int .u64 0, .int .u64 0, .int .u64 0, .int .u64 0, .int .u64 0, .int .u64 0, .int .u64 0, .int .u64 0, .int .u64 0, .int .u64 0, .int .u64 0, .int .u64 0, .int .u64 0, .int .u64 0, .int .u64 0, .int .u64 0, .int .u64 0, .int .u64 0, .int .u64 0, .slice none 0 0, .bool false, .int .i64 0] 284)).heap.size=w2.heap.size+1:=World.size_alloc _ _
   obtain ⟨v1,hv1⟩: ∃v1,v1=w2.alloc (.cells #[.int .i64 place, .int .u64 r0, .int .u64 0, .int .u64 0, .int .u64 0, .int .u64 0, .int .u64 0, .int .u64 0, .int .u64 0, .int .u64 0, .int .u64 0, .int .u64 0, .int .u64 0, .int .u64 0, .int .u64 0, .int .u64 0, .int .u64 0, .int .u64 0, .int .u64 0, .int .u64 0, .int .u64 0, .int .u64 0, .int .u64 0, .int .u64 0, .int .u64 0, .int .u64 0, .int .u64 0, .int .u64 0, .int .u64 0, .int .u64 0, .int .u64 0, .int .u64 0, .int .u64 0, .slice none 0 0, .bool false, .int .i64 0] 284):=⟨_,rfl⟩
   rw[←hv1] at hb1 hn1 hs1
   obtain ⟨l1,l2,l3⟩:=laid2 v1 (.cells #[.pointer (some ⟨w2.heap.size,0,none⟩)] 282) (.cells #[.int .u64 id, .slice (some ⟨w2.heap.size+1,0,none⟩) 1 1, .int .u64 0] 281)
   rw[hs1] at l1 l2 l3
   have hn2:=(l3.block w2.heap.size (by omega)).trans hn1
   have hb3:Below w2.heap.size w2 _:=hb1.trans (l3.mono (by omega))
   have hrow:World.ownsRow _ 0 282 1 (.slice (some ⟨w2.heap.size+1,0,none⟩) 1 1) 1 [.pointer (some ⟨w2.heap.size,0,none⟩)]:=⟨rfl,Or.inr ⟨_,1,_,rfl,Nat.zero_le _,l1,Nat.le_refl _,one_max,rfl,rfl⟩⟩
   obtain ⟨w5,hst,hk5,-⟩:=h2.spawn ⟨hbn.1,born_u64 HBt.out.symm⟩ hno (fr:=⟨frame0 place r0,false,0⟩) (frame0_ok HP.out HR.out) rfl ⟨Int.le_refl 0,by show (0:Int)<1000;decide⟩ (by have:=HN.out;omega) hb3 (Nat.le_refl _) (Nat.le_succ_of_le (Nat.le_succ _)) (by rw[e36];exact hn2) l2 hrow (fun b hb=>by cases hb;exact Nat.le_succ _)
   rw[hv1] at hst
   have HK5:=Lib.hid hk5
   have HT2':=HT2
   clear hv1 e36 hb1 hn1 hs1 l1 l2 l3 hn2 hb3 hrow hk5 hbn hno h2 t2
   go_wp2_with fail
   go_ret
   obtain ⟨tb,fb,hg,hk⟩:=HK5.out
   exact ⟨rfl,tb,fb,hg,KO.trans HT2.out hk⟩
end
end Go.Proofs.YtaangaogmnlljaaGreatDoor.Kn
namespace Go.Proofs.YtaangaogmnlljaaGreatDoor.Kn
open Go.RowKit Asm
def ownN (K th gW A lo nF nR nQ nT nO nM:Nat):Own:=fun b=>
 if b=K then .mach else if b=th then .map else if b=gW then .wk else if b=A then .alc
 else if b<lo then .other else if b<nF then .clk else if b<nR then .fixed else if b<nQ then .ring else if b<nT then .wq else if b<nO then .tab else if b<nM then .obj else .mem
structure Cuts (K th gW A lo nF nR nQ nT nO nM:Nat):Prop where
 ck:lo≤K∧K<nF
 ct:lo≤th∧th<nF
 cg:lo≤gW∧gW<nF
 d1:K≠th
 d2:K≠gW
 d3:th≠gW
 c:nF≤nR∧nR≤nQ∧nQ≤nT∧nT≤nO∧nO≤nM
 a:nM≤A
section
variable {K th gW A lo nF nR nQ nT nO nM:Nat}
theorem own_k:ownN K th gW A lo nF nR nQ nT nO nM K= .mach:=if_pos rfl
theorem own_th (h:Cuts K th gW A lo nF nR nQ nT nO nM):ownN K th gW A lo nF nR nQ nT nO nM th= .map:=by
 unfold ownN;rw[if_neg h.d1.symm,if_pos rfl]
theorem own_gW (h:Cuts K th gW A lo nF nR nQ nT nO nM):ownN K th gW A lo nF nR nQ nT nO nM gW= .wk:=by
 unfold ownN;rw[if_neg h.d2.symm,if_neg h.d3.symm,if_pos rfl]
theorem own_A (h:Cuts K th gW A lo nF nR nQ nT nO nM):ownN K th gW A lo nF nR nQ nT nO nM A= .alc:=by
 have h1:=h.ck;have h2:=h.ct;have h3:=h.cg;have h4:=h.c;have h5:=h.a
 unfold ownN;rw[if_neg (by omega),if_neg (by omega),if_neg (by omega),if_pos rfl]
theorem own_lo (h:Cuts K th gW A lo nF nR nQ nT nO nM) {b:Nat} (hb:b<lo):ownN K th gW A lo nF nR nQ nT nO nM b= .other:=by
 have h1:=h.ck;have h2:=h.ct;have h3:=h.cg;have h4:=h.c;have h5:=h.a
 unfold ownN;rw[if_neg (by omega),if_neg (by omega),if_neg (by omega),if_neg (by omega),if_pos hb]
theorem own_clk (h:Cuts K th gW A lo nF nR nQ nT nO nM) {b:Nat} (hb:lo≤b∧b<nF) (h1:b≠K∧b≠th∧b≠gW):ownN K th gW A lo nF nR nQ nT nO nM b= .clk:=by
 have h4:=h.c;have h5:=h.a
 unfold ownN;rw[if_neg h1.1,if_neg h1.2.1,if_neg h1.2.2,if_neg (by omega),if_neg (by omega),if_pos hb.2]
theorem own_fix (h:Cuts K th gW A lo nF nR nQ nT nO nM) {b:Nat} (hb:nF≤b∧b<nR):ownN K th gW A lo nF nR nQ nT nO nM b= .fixed:=by
 have h1:=h.ck;have h2:=h.ct;have h3:=h.cg;have h4:=h.c;have h5:=h.a
 unfold ownN;rw[if_neg (by omega),if_neg (by omega),if_neg (by omega),if_neg (by omega),if_neg (by omega),if_neg (by omega),if_pos hb.2]
theorem own_ring (h:Cuts K th gW A lo nF nR nQ nT nO nM) {b:Nat} (hb:nR≤b∧b<nQ):ownN K th gW A lo nF nR nQ nT nO nM b= .ring:=by
 have h1:=h.ck;have h2:=h.ct;have h3:=h.cg;have h4:=h.c;have h5:=h.a
 unfold ownN;rw[if_neg (by omega),if_neg (by omega),if_neg (by omega),if_neg (by omega),if_neg (by omega),if_neg (by omega),if_neg (by omega),if_pos hb.2]
theorem own_wq (h:Cuts K th gW A lo nF nR nQ nT nO nM) {b:Nat} (hb:nQ≤b∧b<nT):ownN K th gW A lo nF nR nQ nT nO nM b= .wq:=by
 have h1:=h.ck;have h2:=h.ct;have h3:=h.cg;have h4:=h.c;have h5:=h.a
 unfold ownN;rw[if_neg (by omega),if_neg (by omega),if_neg (by omega),if_neg (by omega),if_neg (by omega),if_neg (by omega),if_neg (by omega),if_neg (by omega),if_pos hb.2]
theorem own_tab (h:Cuts K th gW A lo nF nR nQ nT nO nM) {b:Nat} (hb:nT≤b∧b<nO):ownN K th gW A lo nF nR nQ nT nO nM b= .tab:=by
 have h1:=h.ck;have h2:=h.ct;have h3:=h.cg;have h4:=h.c;have h5:=h.a
 unfold ownN;rw[if_neg (by omega),if_neg (by omega),if_neg (by omega),if_neg (by omega),if_neg (by omega),if_neg (by omega),if_neg (by omega),if_neg (by omega),if_neg (by omega),if_pos hb.2]
theorem own_obj (h:Cuts K th gW A lo nF nR nQ nT nO nM) {b:Nat} (hb:nO≤b∧b<nM):ownN K th gW A lo nF nR nQ nT nO nM b= .obj:=by
 have h1:=h.ck;have h2:=h.ct;have h3:=h.cg;have h4:=h.c;have h5:=h.a
 unfold ownN;rw[if_neg (by omega),if_neg (by omega),if_neg (by omega),if_neg (by omega),if_neg (by omega),if_neg (by omega),if_neg (by omega),if_neg (by omega),if_neg (by omega),if_neg (by omega),if_pos hb.2]
theorem own_mem (h:Cuts K th gW A lo nF nR nQ nT nO nM) {b:Nat} (hb:nM≤b) (hA:b≠A):ownN K th gW A lo nF nR nQ nT nO nM b= .mem:=by
 have h1:=h.ck;have h2:=h.ct;have h3:=h.cg;have h4:=h.c
 unfold ownN;rw[if_neg (by omega),if_neg (by omega),if_neg (by omega),if_neg hA,if_neg (by omega),if_neg (by omega),if_neg (by omega),if_neg (by omega),if_neg (by omega),if_neg (by omega),if_neg (by omega)]
end
def nilp:Value:= .pointer none
def P7 (F:Fixed) (lv cv pv:Value) (entry:Int):List Value:= [lv, .int .i64 F.loop,cv,pv, .int .i64 entry, .int .i64 F.wide, .int .i64 F.narrow]
def rowsV (F:Fixed) (k:Nat):List Value:=(List.range 1000).map fun (i:Nat)=>Value.int .i64 ((rowIx (F.calls.take k) (i:Int):Nat):Int)
def ptr (b:Nat):Value:= .pointer (some ⟨b,0,none⟩)
def S14 (X A C Rg Q T O th gW n:Nat):List Value:= [ptr X,ptr A,ptr C,ptr Rg,ptr Q,ptr T,ptr O, .map (some th), .slice (some ⟨gW,0,none⟩) n n, .int .i64 0, .int .i64 0, .int .i64 0, .int .u64 0, .slice none 0 0]
theorem rowIx_all (F:Fixed):F.calls.take F.calls.length=F.calls:=List.take_length
theorem machC_of {w:World} {F:Fixed} {G:KG} {entry:Int} {cells:Nat} (h:KB w G.K (P7 F G.lv G.cv G.pv entry) (rowsV F F.calls.length) (S14 G.X G.A G.C G.R G.Q G.T G.O G.th G.gW F.workers)):MachC (P7 F G.lv G.cv G.pv entry++rowsV F F.calls.length++S14 G.X G.A G.C G.R G.Q G.T G.O G.th G.gW F.workers).toArray F G (bareK F cells) (.slice none 0 0):=by
 have hl:(P7 F G.lv G.cv G.pv entry++rowsV F F.calls.length).length=1007:=by rw[List.length_append,h.p,h.r]
 have p: ∀j,j<7→ ∀v,(P7 F G.lv G.cv G.pv entry)[j]?=some v→(P7 F G.lv G.cv G.pv entry++rowsV F F.calls.length++S14 G.X G.A G.C G.R G.Q G.T G.O G.th G.gW F.workers).toArray[j]?=some v:=fun j hj v hv=>by
  rw[List.getElem?_toArray,List.append_assoc,List.getElem?_append_left (by rw[h.p];exact hj),hv]
 have s: ∀j v,(S14 G.X G.A G.C G.R G.Q G.T G.O G.th G.gW F.workers)[j]?=some v→(P7 F G.lv G.cv G.pv entry++rowsV F F.calls.length++S14 G.X G.A G.C G.R G.Q G.T G.O G.th G.gW F.workers).toArray[1007+j]?=some v:=fun j v hv=>by
  rw[List.getElem?_toArray,List.getElem?_append_right (by rw[hl];omega),hl,Nat.add_sub_cancel_left,hv]
 refine ⟨?_,p 0 (by decide) _ rfl,p 1 (by decide) _ rfl,p 2 (by decide) _ rfl,p 3 (by decide) _ rfl,p 5 (by decide) _ rfl,p 6 (by decide) _ rfl,fun i hi=>?_,s 0 _ rfl,s 1 _ rfl,s 2 _ rfl,s 3 _ rfl,s 4 _ rfl,s 5 _ rfl,s 6 _ rfl,s 7 _ rfl,s 8 _ rfl,s 9 _ rfl,s 10 _ rfl,s 11 _ rfl,s 12 _ rfl,s 13 _ rfl⟩
 ·rw[List.size_toArray,List.length_append,hl,h.s]
 ·rw[List.getElem?_toArray,List.append_assoc,List.getElem?_append_right (by rw[h.p];omega),h.p,List.getElem?_append_left (by rw[h.r];omega),Nat.add_sub_cancel_left]
  unfold rowsV
  rw[List.getElem?_map,List.getElem?_range hi,rowIx_all]
  rfl
def wk0 (F:Fixed):Wkr:={ f:={ pc:=F.loop}}
structure NewS (w:World) (F:Fixed) (G:KG) (cells lo nF nR nQ nT nO nM:Nat) (entry:Int):Prop where
 kb:KB w G.K (P7 F G.lv G.cv G.pv entry) (rowsV F F.calls.length) (S14 G.X G.A G.C G.R G.Q G.T G.O G.th G.gW F.workers)
 lib:w.ownsRow nF 68 7 G.lv F.lib.length (codeC F.lib)
 calls:w.ownsRow nF 184 6 G.cv F.calls.length (callC F.calls)
 code:w.ownsRow nF 68 7 G.pv F.code.length (codeC F.code)
 rows: ∀b,G.lv.ownBlock=some b∨G.cv.ownBlock=some b∨G.pv.ownBlock=some b→b<nR
 mem: ∃gc gw,MemP w G.X gc gw (laidM F cells)∧(nM≤G.X∧nM≤gc∧nM≤gw)∧G.X≠G.A∧gc≠G.A∧gw≠G.A
 alc:AlcP w G.A G.X (.slice none 0 0) ⟨baseN F+F.wide.toNat+F.narrow.toNat,cells,[]⟩
 clk: ∃hb hm ab,ClkP w G.C hb hm (.slice none 0 0) ab { now:=0,S:= [],last:=0} 0 0∧ ∀b,b=G.C∨b=hb∨b=hm∨b=ab→(lo≤b∧b<nF)∧b≠G.K∧b≠G.th∧b≠G.gW
 ring: ∃gr,RingP w G.R gr []∧ ∀b,b=G.R∨b=gr→nR≤b∧b<nQ
 wq: ∃gl mb B,WqP w G.Q gl mb B [] 0∧ ∀b,b=G.Q∨b=gl∨b=mb→nQ≤b∧b<nT
 tab: ∃gt,TabP w G.T gt (List.replicate 64 {}) 0∧ ∀b,b=G.T∨b=gt→nT≤b∧b<nO
 obj: ∃go,ObjP w G.O go (List.replicate 64 {}) 0∧ ∀b,b=G.O∨b=go→nO≤b∧b<nM
 th:GMap ptrs w G.th (fun _=>none) 0
 wk:w.heap[G.gW]?=some (.cells ((List.replicate F.workers (wk0 F,Value.slice none 0 0)).flatMap wk38).toArray 166 (0,0))
 cuts:Cuts G.K G.th G.gW G.A lo nF nR nQ nT nO nM
theorem NewS.kern {w:World} {F:Fixed} {G:KG} {cells lo nF nR nQ nT nO nM:Nat} {entry:Int} (h:NewS w F G cells lo nF nR nQ nT nO nM entry) (hF:FixOk F):
  KernP F w (ownN G.K G.th G.gW G.A lo nF nR nQ nT nO nM) G (bareK F cells) 1:=by
 have hc:=h.cuts
 refine ⟨hF,⟨⟨Int.le_refl 0,by show (0:Int)≤1;decide⟩,⟨Int.le_refl 0,by show (0:Int)≤1;decide⟩,⟨by show (-1:Int)≤0;decide,by show (0:Int)<64;decide⟩,u64_0,List.length_replicate,by simp[bareK]⟩,⟨own_k,_, .slice none 0 0,h.kb.obj,machC_of h.kb,⟨World.ownsRow_nil _ _ _ _,fun b hb=>by cases hb⟩⟩,⟨?_,?_,?_⟩,?_,?_,?_,?_,?_,?_,?_,?_,?_⟩
 ·exact ⟨Asm.row_base h.lib (Nat.zero_le _),fun b hb=>own_fix hc ⟨(h.lib.lt b hb).1,h.rows b (Or.inl hb)⟩⟩
 ·exact ⟨Asm.row_base h.calls (Nat.zero_le _),fun b hb=>own_fix hc ⟨(h.calls.lt b hb).1,h.rows b (Or.inr (Or.inl hb))⟩⟩
 ·exact ⟨Asm.row_base h.code (Nat.zero_le _),fun b hb=>own_fix hc ⟨(h.code.lt b hb).1,h.rows b (Or.inr (Or.inr hb))⟩⟩
 ·obtain ⟨gc,gw,hm,hn,h1,h2,h3⟩:=h.mem
  exact ⟨gc,gw,hm,fun b hb=>by
   rcases hb with rfl|rfl|rfl
   ·exact own_mem hc hn.1 h1
   ·exact own_mem hc hn.2.1 h2
   ·exact own_mem hc hn.2.2 h3⟩
 ·exact ⟨_,h.alc,fun b hb=>by
   rcases hb with rfl|hb
   ·exact own_A hc
   ·cases hb⟩
 ·obtain ⟨hb,hm,ab,hC,hall⟩:=h.clk
  refine ⟨hb,hm,_,ab,0,0,hC,fun b hb'=>?_,by simp[bareK],by omega,by show (0:Int)≤1;decide,Int.le_refl 0,by show (0:Int)≤1;decide⟩
  have:b=G.C∨b=hb∨b=hm∨b=ab:=by
   rcases hb' with e|e|e|e|e
   ·exact Or.inl e
   ·exact Or.inr (Or.inr (Or.inr e))
   ·exact Or.inr (Or.inl e)
   ·exact Or.inr (Or.inr (Or.inl e))
   ·cases e
  exact own_clk hc (hall b this).1 (hall b this).2
 ·obtain ⟨gr,hR,hall⟩:=h.ring
  exact ⟨gr,hR,fun b hb=>own_ring hc (hall b hb)⟩
 ·obtain ⟨gl,mb,B,hQ,hall⟩:=h.wq
  refine ⟨gl,mb,B,0,hQ,fun b hb=>own_wq hc (hall b ?_),by omega⟩
  rcases hb with (e|e|⟨s,hs,-⟩) |e
  ·exact Or.inl e
  ·exact Or.inr (Or.inl e)
  ·cases hs
  ·exact Or.inr (Or.inr e)
 ·obtain ⟨gt,hT,hall⟩:=h.tab
  exact ⟨gt,0,hT,fun b hb=>own_tab hc (hall b hb),by omega⟩
 ·obtain ⟨go,hO,hall⟩:=h.obj
  exact ⟨go,0,hO,fun b hb=>own_obj hc (hall b hb),by omega⟩
 ·exact ⟨List.nodup_nil,own_th hc,⟨0,h.th.same fun k _=>rfl,by omega⟩,fun r hr=>by cases hr⟩
 ·refine ⟨own_gW hc,List.replicate F.workers (wk0 F,Value.slice none 0 0),by rw[List.map_replicate];rfl,h.wk,fun i p hp=>?_⟩
  have hp2:=(List.mem_replicate.1 (List.mem_of_getElem? hp)).2
  subst hp2
  have hl:=hF.loop
  have hl2:=hF.lib
  refine ⟨⟨u64_0,u64_0,⟨Int.le_refl 0,by show (0:Int)≤100;decide⟩,⟨by simp[wk0],fun x hx=>?_,⟨hl.1,by show F.loop≤_;omega⟩,by simp[wk0],fun x hx=>by simp[wk0] at hx⟩⟩,⟨World.ownsRow_nil _ _ _ _,fun b hb=>by cases hb⟩⟩
  rw[(List.mem_replicate.1 hx).2]
  exact u64_0
end Go.Proofs.YtaangaogmnlljaaGreatDoor.Kn
namespace Go.Proofs.YtaangaogmnlljaaGreatDoor.Kn
open Go.RowKit Asm
def P0:List Value:= [.slice none 0 0, .int .i64 0, .slice none 0 0, .slice none 0 0, .int .i64 0, .int .i64 0, .int .i64 0]
def R0:List Value:=List.replicate 1000 (.int .i64 0)
def S0 (C th gW n:Nat):List Value:= [nilp,nilp,ptr C,nilp,nilp,nilp,nilp, .map (some th), .slice (some ⟨gW,0,none⟩) n n, .int .i64 0, .int .i64 0, .int .i64 0, .int .u64 0, .slice none 0 0]
set_option maxRecDepth 1000000 in
theorem build_mach (th gW C n:Nat) (W:World):(Instr.build 159 #[(10, .map (some th)),(11, .slice (some ⟨gW,0,none⟩) n n),(5, .pointer (some ⟨C,0,none⟩))]).run Tryz.prog W= .ok (.agg (P0++R0++S0 C th gW n).toArray) W:=by kernel_rfl
def wkZ:Wkr×Value:=({}, .slice none 0 0)
theorem made_rows {L:List Value} {k:Nat} (hk:L.length=k) (h0:0<k) (n:Nat):madeCells L.toArray (n*k)=((List.replicate n ()).flatMap fun _=>L).toArray:=by
 apply Array.ext'
 apply List.ext_getElem?
 intro i
 unfold madeCells
 rw[Array.toList_map,List.getElem?_map,Array.toList_range]
 by_cases hi:i<n*k
 ·rw[List.getElem?_range hi]
  have hq:i/k<n:=(Nat.div_lt_iff_lt_mul h0).2 hi
  have hj:i%k<k:=Nat.mod_lt _ h0
  have h1:=flL_at (k:=k) (f:=fun _:Unit=>L) (fun _=>hk) (List.replicate n ()) (i/k) (by simpa using hq) (i%k) hj
  rw[Nat.mul_comm (i/k) k,Nat.div_add_mod] at h1
  rw[h1]
  simp[hk,hj]
 ·have hl:=flL_len (k:=k) (f:=fun _:Unit=>L) (fun _=>hk) (List.replicate n ())
  rw[List.getElem?_eq_none (by simp;omega),List.getElem?_eq_none (by rw[hl,List.length_replicate];omega)]
  rfl
theorem made_wk (n:Nat):madeCells (wk38 wkZ).toArray (n*38)=((List.replicate n wkZ).flatMap wk38).toArray:=by
 rw[made_rows (L:=wk38 wkZ) (k:=38) rfl (by decide)]
 congr 1
 induction n with
 |zero=>rfl
 |succ n ih=>rw[List.replicate_succ,List.replicate_succ,List.flatMap_cons,List.flatMap_cons,ih]
theorem make_wk (n:Nat) (hn:n≤64) (W:World):(Instr.makeSlice 157 (.int .i64 (n:Int)) (.int .i64 (n:Int))).run Tryz.prog W= .ok (.slice (some ⟨W.heap.size,0,none⟩) n n) (W.alloc (.cells ((List.replicate n wkZ).flatMap wk38).toArray 166)):=by
 have h:=makeN 157 166 n (wk38 wkZ).toArray 38 Tryz.underlying157 (by kernel_rfl) hn W
 rw[made_wk] at h
 exact h
theorem row_code {w:World} {b:Nat} {v:Value} {l:List InsL} (h:w.ownsRow b 68 7 v l.length (codeC l)) (hl:0<l.length): ∃g c,v= .slice (some ⟨g,0,none⟩) l.length c∧CodeAt w g l∧g<w.heap.size:=by
 have hP:PRow w (fun _=> .other) .other 68 7 v l.length (codeC l):=⟨Asm.row_base h (Nat.zero_le _),fun _ _=>rfl⟩
 obtain ⟨g,c,h1,h2,-,h3⟩:=hP.codeAt hl
 exact ⟨g,c,h1,h2,h3⟩
end Go.Proofs.YtaangaogmnlljaaGreatDoor.Kn
namespace Go.Proofs.YtaangaogmnlljaaGreatDoor.Kn
open Go.RowKit Asm
structure MadeS (w wr:World) (n K th gW C:Nat):Prop where
 kb:KB wr K P0 R0 (S0 C th gW n)
 tmap:GMap ptrs wr th (fun _=>none) 0
 wk:wr.heap[gW]?=some (.cells ((List.replicate n wkZ).flatMap wk38).toArray 166 (0,0))
 clk: ∃hb hm ab,ClkP wr C hb hm (.slice none 0 0) ab { now:=0,S:= [],last:=0} 0 0∧ ∀b,b=C∨b=hb∨b=hm∨b=ab→w.heap.size≤b∧b≠K∧b≠th∧b≠gW
 d:w.heap.size≤K∧w.heap.size≤th∧w.heap.size≤gW∧K≠th∧K≠gW∧th≠gW
 below:Below w.heap.size w wr
noncomputable def machZ (th gW C n:Nat):Array Value:=((Tryz.zeroCells159.setIfInBounds 1014 (Value.map (some th))).setIfInBounds 1015 (Value.slice (some ⟨gW,0,none⟩) n n)).setIfInBounds 1009 (Value.pointer (some ⟨C,0,none⟩))
set_option maxRecDepth 1000000 in
theorem mach_zero (th gW C n:Nat):machZ th gW C n=(P0++R0++S0 C th gW n).toArray:=by kernel_rfl
theorem heap_at {X:World} {o:Obj} {k:Nat} (h:k=X.heap.size):(X.alloc o).heap[k]?=some o:=by
 subst h
 exact heap_alloc_new X o
theorem heap_dr (X:World) (k:Nat):X.drew.heap[k]?=X.heap[k]?:=rfl
theorem empty_map {wr:World} {th:Nat} (hth:wr.heap[th]?=some (.map #[] 0)):GMap ptrs wr th (fun _=>none) 0:=by
 obtain ⟨es,c,h1,h2,h3,h4⟩:=World.ownsMap_made wr Tryz.prog 53 ptrs.R
 have h0:=heap_alloc_new wr (.map #[] 0)
 rw[h0] at h1
 injection h1 with h1
 injection h1 with e1 e2
 subst e1 e2
 exact ⟨_,0,⟨_,_,hth,h2,h3,h4⟩,Nat.le_refl _,fun k _=>⟨rfl,fun j hj=>by cases hj⟩⟩
theorem made_any {w2 wr w3:World} {n K th gW C hb hm ab L:Nat} (hK:wr.heap[K]?=some (.cells (machZ th gW C n) 159 (0,0))) (hth:wr.heap[th]?=some (.map #[] 0)) (hgW:wr.heap[gW]?=some (.cells ((List.replicate n wkZ).flatMap wk38).toArray 166 (0,0)))
  (hC:ClkP w3 C hb hm (.slice none 0 0) ab { now:=0,S:= [],last:=0} 0 0) (h1:L≤C) (h2:L≤hb) (h3:L≤hm) (h4:L≤ab) (hkeep: ∀b,b<w3.heap.size→wr.heap[b]?=w3.heap[b]?)
  (hlo:w2.heap.size≤L∧w2.heap.size≤K∧w2.heap.size≤th∧w2.heap.size≤gW) (hd:K≠th∧K≠gW∧th≠gW) (hKw:w3.heap.size≤K) (ht:th<L∨w3.heap.size≤th) (hg:gW<L∨w3.heap.size≤gW) (hb':Below w2.heap.size w2 wr):MadeS w2 wr n K th gW C:=by
 have hlt: ∀b,b=C∨b=hb∨b=hm∨b=ab→L≤b∧b<w3.heap.size:=fun b e=>by
  rcases e with rfl|rfl|rfl|rfl
  ·exact ⟨h1,hC.lt (Or.inl rfl)⟩
  ·exact ⟨h2,hC.lt (Or.inr (Or.inr (Or.inl rfl)))⟩
  ·exact ⟨h3,hC.lt (Or.inr (Or.inr (Or.inr (Or.inl rfl))))⟩
  ·exact ⟨h4,hC.lt (Or.inr (Or.inl rfl))⟩
 refine ⟨⟨by rw[hK,mach_zero],rfl,List.length_replicate,rfl⟩,empty_map hth,hgW,⟨hb,hm,ab,hC.of_blocks fun b hb'=>hkeep b (hC.lt hb'),fun b e=>?_⟩,⟨hlo.2.1,hlo.2.2.1,hlo.2.2.2,hd.1,hd.2.1,hd.2.2⟩,hb'⟩
 have:=hlt b e
 omega
theorem made_fin {w2 wr w3:World} {n K th gW C hb hm ab L:Nat} (hK:wr.heap[K]?=some (.cells (machZ th gW C n) 159 (0,0))) (hC:ClkP w3 C hb hm (.slice none 0 0) ab { now:=0,S:= [],last:=0} 0 0) (h1:L≤C) (h2:L≤hb) (h3:L≤hm) (h4:L≤ab) (hth:wr.heap[th]?=some (.map #[] 0)) (hgW:wr.heap[gW]?=some (.cells ((List.replicate n wkZ).flatMap wk38).toArray 166 (0,0)))
  (hkeep: ∀b,b<w3.heap.size→wr.heap[b]?=w3.heap[b]?) (hlo:w2.heap.size≤L∧w2.heap.size≤K∧w2.heap.size≤th∧w2.heap.size≤gW) (hd:K≠th∧K≠gW∧th≠gW) (hKw:w3.heap.size≤K) (ht:th<L∨w3.heap.size≤th) (hg:gW<L∨w3.heap.size≤gW) (hbel:Below w2.heap.size w2 wr):
  ∃K' th' gW' C',Value.pointer (some ⟨K,0,none⟩)= .pointer (some ⟨K',0,none⟩)∧Hid (MadeS w2 wr n K' th' gW' C'):=⟨K,th,gW,C,rfl,Lib.hid (made_any hK hth hgW hC h1 h2 h3 h4 hkeep hlo hd hKw ht hg hbel)⟩
theorem MadeS.drewN {w wr:World} {n K th gW C:Nat} (h:MadeS w wr n K th gW C) (q:Nat):MadeS w (wr.drewN q) n K th gW C:=
 ⟨h.kb.of_block rfl,h.tmap.of_block rfl,h.wk,(by obtain ⟨hb,hm,ab,h1,h2⟩:=h.clk;exact ⟨hb,hm,ab,h1.of_blocks fun _ _=>rfl,h2⟩),h.d,⟨h.below.os,h.below.tape,h.below.output,h.below.size,h.below.block⟩⟩
theorem step_append_own2 {P:Program} (w:World) {ops:Array Oper} {o:Oper} {a:Act} {K:Act→World→Prop} {Q:Exit→Act→World→Prop} {E:Prop} (hgd:o.guard=none) (s x:Operand) (t:TypeId)
  (ho:o.op= .call { callee:= .builtin .append,args:=#[s,x],argTypes:=#[t,t]})
  (base:Nat) (e:TypeId) (i:TypeInfo) (z:Value) (size bytes:Nat) (ht:P.underlying t=some (.slice e)) (hi:P.info? e=some i) (hz:i.zero=some z)
  (hsize:i.size=size) (hby:i.bytes=bytes) (hzs:z.cells.size=size) (hsz:0<size)
  (v:Value) (n:Nat) (xs:List Value) (hs:a.eval s=v) (hown:w.ownsRow base e size v n xs)
  (ad:Addr) (m c:Nat) (news:List Value) (hx:a.eval x= .slice (some ad) m c) (hl:news.length=m*size) (hnews: ∀j u,news[j]?=some u→w.cell? (ad.add j)=some u) (h1: ∀u∈news,u.oneCell'=true)
  (h63:n+m≤maxLen) (hbytes:(n+m)*bytes≤140737488355328) (hbase:base≤w.heap.size)
  (h: ∀v' w',w.ownsRow base e size v n xs→w'.ownsRow base e size v' (n+m) (xs++news)→w.grownBy w' v.ownBlock→K (a.put o.dst v') w'):
  if Region.wanted o (yielded ops a.tmps)=true then Oper.wp P o a w K Q else E:=
 step_append_own w hgd s x t ho base e i z size bytes ht hi hz hsize hby hzs hsz v n xs hs hown ad m c news hx hl hnews h1 h63 hbytes hbase fun v' w' a b _=>h v' w' hown a b
theorem rows_both {w4 X w5:World} {base e1 e2 s1 s2 n1 n2:Nat} {v4 v2:Value} {xs1 xs2:List Value} (h4:w4.ownsRow base e1 s1 v4 n1 xs1) (hX:Below w4.heap.size w4 X) (hem:X.ownsRow base e2 s2 v2 n2 xs2) (hg:X.grownBy w5 v2.ownBlock) (hne:e1≠e2):w5.ownsRow base e1 s1 v4 n1 xs1:=by
 have hX4:=ownsRow_of_block h4 fun k e=>hX.block k (h4.lt k e).2
 refine ownsRow_of_block hX4 fun k e=>hg.block k (hX4.lt k e).2 fun q=>?_
 rcases Go.Proofs.YtaangaogmnlljaaGreatDoor.own_apart hX4 hem hne with h|h
 ·rw[h] at e;cases e
 ·exact h (e.trans q)
theorem keeps_strip {w w':World} {K:Nat} (h:Keeps (fun b=>b=K∨w.heap.size≤b) w w'):Keeps (fun b=>b=K) w w':=
 ⟨h.os,h.tape,h.output,h.size,fun k hk hx=>h.block k hk fun q=>q.elim hx fun q=>by omega⟩
theorem infoInsN:(Tryz.prog.info? 68).map (fun i=>(i.zero,i.size,i.bytes))=some (some (.agg #[.int .i64 0, .int .i64 0, .int .i64 0, .int .i64 0, .int .u64 0, .int .i64 0, .int .i64 0]),7,56):=by kernel_rfl
theorem row_new {X:World} {k base:Nat} {e:TypeId} {size:Nat} (h:X.heap[k]?=some (.cells #[] e (0,0))) (hb:base≤k):X.ownsRow base e size (.slice (some ⟨k,0,none⟩) 0 0) 0 []:=
 ⟨by simp, .inr ⟨_,0,#[],rfl,hb,h,Nat.le_refl _,by simp[maxLen],by simp,by simp⟩⟩
theorem codeC_len' (l:List InsL):(codeC l).length=l.length*7:=flL_len (k:=7) (f:=insC) (fun _=>rfl) l
theorem callC_len' (l:List RowL):(callC l).length=l.length*6:=flL_len (k:=6) (f:=row6) (fun _=>rfl) l
theorem codeC_one' (l:List InsL): ∀u∈codeC l,u.oneCell'=true:=fun u hu=>by
 obtain ⟨x,-,h⟩:=List.mem_flatMap.1 hu
 simp[insC] at h
 rcases h with rfl|rfl|rfl|rfl|rfl|rfl|rfl<;>rfl
theorem callC_one' (l:List RowL): ∀u∈callC l,u.oneCell'=true:=fun u hu=>by
 obtain ⟨x,-,h⟩:=List.mem_flatMap.1 hu
 simp[row6] at h
 rcases h with rfl|rfl|rfl|rfl|rfl|rfl<;>rfl
def PL (F:Fixed) (lv cv:Value):List Value:= [lv, .int .i64 F.loop,cv, .slice none 0 0, .int .i64 0, .int .i64 0, .int .i64 0]
structure LibS (F:Fixed) (wd wx:World) (K:Nat) (lv cv:Value) (S:List Value):Prop where
 kb:KB wx K (PL F lv cv) R0 S
 lib:wx.ownsRow wd.heap.size 68 7 lv F.lib.length (codeC F.lib)
 calls:wx.ownsRow wd.heap.size 184 6 cv F.calls.length (callC F.calls)
 keeps:Keeps (fun b=>b=K) wd wx
theorem row_set {w:World} {base:Nat} {e:TypeId} {size n:Nat} {v:Value} {xs:List Value} (h:w.ownsRow base e size v n xs) {K i:Nat} {u:Value} (hK:K<base):(w.setCell ⟨K,i,none⟩ u).ownsRow base e size v n xs:=
 ownsRow_of_block h fun b hb=>set_other (by have:=(h.lt b hb).1;show b≠K;omega)
theorem libS_of {F:Fixed} {wd X:World} {K:Nat} {lv cv:Value} {S:List Value} (kb:KB wd K P0 R0 S) (hX:Below wd.heap.size wd X) (h1:X.ownsRow wd.heap.size 68 7 lv F.lib.length (codeC F.lib)) (h2:X.ownsRow wd.heap.size 184 6 cv F.calls.length (callC F.calls)):
  LibS F wd (((X.setCell ⟨K,0,none⟩ lv).setCell ⟨K,1,none⟩ (.int .i64 F.loop)).setCell ⟨K,2,none⟩ cv) K lv cv S:=by
 have hK:=kb.lt
 refine ⟨(((kb.below hX).setP (j:=0) (by decide) lv).setP (j:=1) (by decide) _).setP (j:=2) (by decide) cv,row_set (row_set (row_set h1 hK) hK) hK,row_set (row_set (row_set h2 hK) hK) hK,?_⟩
 exact (((Keeps.ofBelow (X:=fun b=>b=K) hX).setCell (p:=⟨K,0,none⟩) rfl _).setCell (p:=⟨K,1,none⟩) rfl _).setCell (p:=⟨K,2,none⟩) rfl _
structure CodeS (F:Fixed) (wd wx:World) (K:Nat) (lv cv pv:Value) (entry:Int) (S:List Value):Prop where
 kb:KB wx K (P7 F lv cv pv entry) R0 S
 code:wx.ownsRow wd.heap.size 68 7 pv F.code.length (codeC F.code)
 keeps:Keeps (fun b=>b=K) wd wx
theorem codeS_of {F:Fixed} {wd X:World} {K:Nat} {lv cv pv:Value} {entry:Int} {S:List Value} (kb:KB wd K (PL F lv cv) R0 S) (hX:Below wd.heap.size wd X) (h1:X.ownsRow wd.heap.size 68 7 pv F.code.length (codeC F.code)):
  CodeS F wd ((((X.setCell ⟨K,3,none⟩ pv).setCell ⟨K,4,none⟩ (.int .i64 entry)).setCell ⟨K,5,none⟩ (.int .i64 F.wide)).setCell ⟨K,6,none⟩ (.int .i64 F.narrow)) K lv cv pv entry S:=by
 have hK:=kb.lt
 refine ⟨((((kb.below hX).setP (j:=3) (by decide) pv).setP (j:=4) (by decide) _).setP (j:=5) (by decide) _).setP (j:=6) (by decide) _,row_set (row_set (row_set (row_set h1 hK) hK) hK) hK,?_⟩
 exact ((((Keeps.ofBelow (X:=fun b=>b=K) hX).setCell (p:=⟨K,3,none⟩) rfl _).setCell (p:=⟨K,4,none⟩) rfl _).setCell (p:=⟨K,5,none⟩) rfl _).setCell (p:=⟨K,6,none⟩) rfl _
theorem rowIx_app (l:List RowL) (x:RowL) (num:Int) (h0:rowIx l num=0∨x.num≠num):rowIx (l++ [x]) num=if x.num=num then l.length+1 else rowIx l num:=by
 unfold rowIx at*
 rw[List.findIdx?_append]
 cases h:l.findIdx? (fun r=>r.num==num) with
 |some i=>
  rw[h] at h0
  have hx:x.num≠num:=h0.resolve_left (by simp)
  rw[if_neg hx]
  rfl
 |none=>
  by_cases e:x.num=num
  ·simp[List.findIdx?_cons,e]
  ·simp[List.findIdx?_cons,e]
theorem rowIx_fresh {l:List RowL} {k:Nat} (hk:k<l.length) (hn:(l.map (·.num)).Nodup):rowIx (l.take k) l[k].num=0:=by
 unfold rowIx
 have:(l.take k).findIdx? (fun r=>r.num==l[k].num)=none:=by
  rw[List.findIdx?_eq_none_iff]
  intro x hx
  obtain ⟨j,hj,rfl⟩:=List.getElem_of_mem hx
  rw[List.length_take] at hj
  rw[List.getElem_take]
  refine beq_eq_false_iff_ne.2 fun e=>?_
  have h1:(l.map (·.num))[j]?=(l.map (·.num))[k]?:=by
   rw[List.getElem?_map,List.getElem?_map,List.getElem?_eq_getElem (by omega),List.getElem?_eq_getElem hk]
   simp[e]
  have:=(List.getElem?_inj (by rw[List.length_map];omega) hn).1 h1
  omega
 rw[this]
theorem rowsV_zero (F:Fixed):rowsV F 0=R0:=by
 unfold rowsV R0
 rw[List.take_zero]
 apply List.ext_getElem?
 intro i
 rw[List.getElem?_map,List.getElem?_replicate]
 by_cases hi:i<1000
 ·rw[List.getElem?_range hi,if_pos hi];rfl
 ·rw[List.getElem?_eq_none (by simpa using hi),if_neg hi];rfl
theorem rowsV_succ {F:Fixed} {k m:Nat} (hk:k<F.calls.length) (hn:(F.calls.map (·.num)).Nodup) (hm:F.calls[k].num=(m:Int)):rowsV F (k+1)=(rowsV F k).set m (.int .i64 ((k:Int)+1)):=by
 have htk:F.calls.take (k+1)=F.calls.take k++ [F.calls[k]]:=by
  rw[List.take_add_one,List.getElem?_eq_getElem hk];rfl
 have hfr:=rowIx_fresh hk hn
 unfold rowsV
 rw[htk]
 apply List.ext_getElem?
 intro i
 rw[List.getElem?_map,List.getElem?_set,List.getElem?_map,List.length_map,List.length_range]
 by_cases hi:i<1000
 ·rw[List.getElem?_range hi]
  by_cases e:m=i
  ·subst e
   have h1:=rowIx_app (F.calls.take k) F.calls[k] (m:Int) (Or.inl (by rw[←hm];exact hfr))
   rw[if_pos hm,List.length_take] at h1
   rw[if_pos rfl,if_pos hi]
   simp only[Option.map_some]
   rw[h1,show min k F.calls.length=k by omega]
   rfl
  ·have hne:F.calls[k].num≠(i:Int):=fun q=>e (by rw[hm] at q;omega)
   have h1:=rowIx_app (F.calls.take k) F.calls[k] (i:Int) (Or.inr hne)
   rw[if_neg hne] at h1
   rw[if_neg e]
   simp only[Option.map_some]
   rw[h1]
 ·rw[List.getElem?_eq_none (by simpa using hi)]
  by_cases e:m=i
  ·rw[if_pos e,if_neg (by omega)];rfl
  ·rw[if_neg e];rfl
def wkf (F:Fixed) (t:Bool):List Value:=if t=true then wk38 (wk0 F,Value.slice none 0 0) else wk38 wkZ
theorem wkf_len (F:Fixed) (t:Bool):(wkf F t).length=38:=by cases t<;>rfl
def wkB (n i:Nat):List Bool:=List.replicate i true++List.replicate (n - i) false
theorem wkB_len {n i:Nat} (h:i≤n):(wkB n i).length=n:=by simp[wkB];omega
theorem wkB_zero (F:Fixed) (n:Nat):(wkB n 0).flatMap (wkf F)=(List.replicate n wkZ).flatMap wk38:=by
 unfold wkB
 rw[List.replicate_zero,List.nil_append,Nat.sub_zero]
 induction n with
 |zero=>rfl
 |succ n ih=>rw[List.replicate_succ,List.replicate_succ,List.flatMap_cons,List.flatMap_cons,ih];rfl
theorem wkB_all (F:Fixed) (n:Nat):(wkB n n).flatMap (wkf F)=(List.replicate n (wk0 F,Value.slice none 0 0)).flatMap wk38:=by
 unfold wkB
 rw[Nat.sub_self,List.replicate_zero,List.append_nil]
 induction n with
 |zero=>rfl
 |succ n ih=>rw[List.replicate_succ,List.replicate_succ,List.flatMap_cons,List.flatMap_cons,ih];rfl
theorem wkB_at {n i:Nat} (h:i<n):(wkB n i)[i]'(by rw[wkB_len (by omega)];exact h)=false:=by
 unfold wkB
 rw[List.getElem_append_right (by simp),List.getElem_replicate]
theorem wkB_set {n i:Nat} (h:i<n):(wkB n i).set i true=wkB n (i+1):=by
 unfold wkB
 rw[List.set_append_right _ _ (by simp),List.length_replicate,Nat.sub_self,show n - i=(n - (i+1))+1 by omega,List.replicate_succ,List.set_cons_zero,List.replicate_succ',List.append_assoc]
 rfl
theorem wkB_cell (F:Fixed) {n i:Nat} (h:i<n):((wkB n i).flatMap (wkf F))[i*38+4]?=some (.int .i64 0):=by
 rw[flL_at (wkf_len F) (wkB n i) i (by rw[wkB_len (by omega)];exact h) 4 (by decide),wkB_at h]
 rfl
theorem wkB_put (F:Fixed) {n i:Nat} (h:i<n):((wkB n i).flatMap (wkf F)).set (i*38+4) (.int .i64 F.loop)=(wkB n (i+1)).flatMap (wkf F):=by
 rw[flL_set (wkf_len F) (wkB n i) i (by rw[wkB_len (by omega)];exact h) 4 (by decide) (.int .i64 F.loop) true (by rw[wkB_at h];rfl),wkB_set h]
theorem wkB_store {X:World} {F:Fixed} {n k gW:Nat} (h:X.heap[gW]?=some (.cells ((wkB n k).flatMap (wkf F)).toArray 166 (0,0))) (hk:k<n):(X.setCell ⟨gW,k*38+4,none⟩ (.int .i64 F.loop)).heap[gW]?=some (.cells ((wkB n (k+1)).flatMap (wkf F)).toArray 166 (0,0)):=by
 rw[set_block h,List.setIfInBounds_toArray,wkB_put F hk]
theorem bornK_u64 (M:Mach) (place r0:Int):U64 (bornK M place r0).1:=by
 unfold bornK
 cases getA M.alc M.mem 1 64 with
 |none=>exact u64_0
 |some g=>
  obtain ⟨home,alc,mem⟩:=g
  simp only
  cases e:bornT M.tab home with
  |none=>exact u64_0
  |some q=>
   obtain ⟨id,tab⟩:=q
   exact born_u64 e
theorem news_fin (F:Fixed) {cells:Nat} {entry:Int} {w2 wd w14 w15 w16 w17 w18 w19 w20 w21 wF:World} {n K th gW C R gr Q gl mb T gt O go X gc gw A:Nat} {B:Int→Nat} {lv cv pv:Value} {P Rw S:List Value}
  (hn:n=F.workers) (md:MadeS w2 wd n K th gW C)
  (hl:w14.ownsRow wd.heap.size 68 7 lv F.lib.length (codeC F.lib)) (hc:w14.ownsRow wd.heap.size 184 6 cv F.calls.length (callC F.calls)) (k14:Keeps (fun b=>b=K) wd w14)
  (hp:w15.ownsRow w14.heap.size 68 7 pv F.code.length (codeC F.code)) (k15:Keeps (fun b=>b=K) w14 w15) (k16:Keeps (fun b=>b=K) w15 w16)
  (hR:RingP w17 R gr []) (bR:w16.heap.size≤R∧w16.heap.size≤gr) (k17:Keeps (fun b=>b=K) w16 w17)
  (hQ:WqP w18 Q gl mb B [] 0) (bQ:w17.heap.size≤Q∧w17.heap.size≤gl∧w17.heap.size≤mb) (k18:Keeps (fun b=>b=K) w17 w18)
  (hT:TabP w19 T gt (List.replicate 64 {}) 0) (bT:w18.heap.size≤T∧w18.heap.size≤gt) (k19:Keeps (fun b=>b=K) w18 w19)
  (hO:ObjP w20 O go (List.replicate 64 {}) 0) (bO:w19.heap.size≤O∧w19.heap.size≤go) (k20:Keeps (fun b=>b=K) w19 w20)
  (hL:LayS w20 w21 K X gc gw P Rw S (laidM F cells)) (hA:AlcP w21 A X (.slice none 0 0) ⟨baseN F+F.wide.toNat+F.narrow.toNat,cells,[]⟩) (bA:w20.heap.size≤A∧X≠A∧gc≠A∧gw≠A)
  (kF:Keeps (fun b=>b=gW) w21 wF)
  (hkb:KB wF K (P7 F lv cv pv entry) (rowsV F F.calls.length) (S14 X A C R Q T O th gW n))
  (hwk:wF.heap[gW]?=some (.cells ((List.replicate n (wk0 F,Value.slice none 0 0)).flatMap wk38).toArray 166 (0,0))):
  NewS wF F { K:=K,X:=X,A:=A,C:=C,R:=R,Q:=Q,T:=T,O:=O,th:=th,gW:=gW,lv:=lv,cv:=cv,pv:=pv,tb:=fun _=>0,fb:=fun _ _=>0} cells w2.heap.size wd.heap.size w16.heap.size w17.heap.size w18.heap.size w19.heap.size w20.heap.size entry:=by
 subst hn
 have k21:=keeps_strip hL.keeps
 have s14:=k14.size
 have s15:=k15.size
 have s16:=k16.size
 have s17:=k17.size
 have s18:=k18.size
 have s19:=k19.size
 have s20:=k20.size
 have s21:=k21.size
 have sF:=kF.size
 have hKd:=md.kb.lt
 have hgd:=blk_in md.wk
 have htd:=md.tmap.lt
 obtain ⟨d1,d2,d3,d4,d5,d6⟩:=md.d
 have st: ∀{a b:World},Keeps (fun x=>x=K) a b→ ∀x,x<a.heap.size→x≠K→b.heap[x]?=a.heap[x]?:=fun h x hx hne=>h.block x hx hne
 have f21: ∀x,x<w21.heap.size→x≠gW→wF.heap[x]?=w21.heap[x]?:=fun x hx hne=>kF.block x hx hne
 have f20: ∀x,x<w20.heap.size→x≠K→x≠gW→wF.heap[x]?=w20.heap[x]?:=fun x hx h1 h2=>(f21 x (by omega) h2).trans (st k21 x hx h1)
 have f19: ∀x,x<w19.heap.size→x≠K→x≠gW→wF.heap[x]?=w19.heap[x]?:=fun x hx h1 h2=>(f20 x (by omega) h1 h2).trans (st k20 x hx h1)
 have f18: ∀x,x<w18.heap.size→x≠K→x≠gW→wF.heap[x]?=w18.heap[x]?:=fun x hx h1 h2=>(f19 x (by omega) h1 h2).trans (st k19 x hx h1)
 have f17: ∀x,x<w17.heap.size→x≠K→x≠gW→wF.heap[x]?=w17.heap[x]?:=fun x hx h1 h2=>(f18 x (by omega) h1 h2).trans (st k18 x hx h1)
 have f16: ∀x,x<w16.heap.size→x≠K→x≠gW→wF.heap[x]?=w16.heap[x]?:=fun x hx h1 h2=>(f17 x (by omega) h1 h2).trans (st k17 x hx h1)
 have f15: ∀x,x<w15.heap.size→x≠K→x≠gW→wF.heap[x]?=w15.heap[x]?:=fun x hx h1 h2=>(f16 x (by omega) h1 h2).trans (st k16 x hx h1)
 have f14: ∀x,x<w14.heap.size→x≠K→x≠gW→wF.heap[x]?=w14.heap[x]?:=fun x hx h1 h2=>(f15 x (by omega) h1 h2).trans (st k15 x hx h1)
 have fd: ∀x,x<wd.heap.size→x≠K→x≠gW→wF.heap[x]?=wd.heap[x]?:=fun x hx h1 h2=>(f14 x (by omega) h1 h2).trans (st k14 x hx h1)
 obtain ⟨lX,lgc,lgw⟩:=hL.mem.lt
 have lA:=hA.lt
 obtain ⟨nX,ngc,ngw⟩:=hL.new
 refine ⟨hkb,?_,?_,?_,?_,⟨gc,gw,?_,hL.new,bA.2.1,bA.2.2.1,bA.2.2.2⟩,?_,?_,⟨gr,?_,?_⟩,⟨gl,mb,B,?_,?_⟩,⟨gt,?_,?_⟩,⟨go,?_,?_⟩,?_,hwk,⟨⟨d1,hKd⟩,⟨d2,htd⟩,⟨d3,hgd⟩,d4,d5,d6,⟨by omega,by omega,by omega,by omega,by omega⟩,bA.1⟩⟩
 ·exact ownsRow_of_block hl fun k e=>by obtain ⟨a,b⟩:=hl.lt k e;exact f14 k b (by omega) (by omega)
 ·exact ownsRow_of_block hc fun k e=>by obtain ⟨a,b⟩:=hc.lt k e;exact f14 k b (by omega) (by omega)
 ·exact Asm.row_base (ownsRow_of_block hp fun k e=>by obtain ⟨a,b⟩:=hp.lt k e;exact f15 k b (by omega) (by omega)) s14
 ·intro b hb
  rcases hb with hb|hb|hb
  ·have:=(hl.lt b hb).2;show b<w16.heap.size;omega
  ·have:=(hc.lt b hb).2;show b<w16.heap.size;omega
  ·have:=(hp.lt b hb).2;show b<w16.heap.size;omega
 ·exact hL.mem.of_blocks fun b hb=>by rcases hb with rfl|rfl|rfl<;>exact f21 _ (by assumption) (by omega)
 ·refine hA.of_blocks fun b hb=>?_
  rcases hb with rfl|hb
  ·exact f21 _ lA (by have:=bA.1;omega)
  ·cases hb
 ·obtain ⟨hb,hm,ab,hC,hall⟩:=md.clk
  refine ⟨hb,hm,ab,?_,fun b e=>?_⟩
  ·refine hC.of_blocks fun b e=>?_
   have hlt:=hC.lt e
   have e2:b=C∨b=hb∨b=hm∨b=ab:=by
    rcases e with e|e|e|e|e
    ·exact Or.inl e
    ·exact Or.inr (Or.inr (Or.inr e))
    ·exact Or.inr (Or.inl e)
    ·exact Or.inr (Or.inr (Or.inl e))
    ·cases e
   exact fd b hlt (hall b e2).2.1 (hall b e2).2.2.2
  ·have hlt:b<wd.heap.size:=by
    rcases e with rfl|rfl|rfl|rfl
    ·exact hC.lt (Or.inl rfl)
    ·exact hC.lt (Or.inr (Or.inr (Or.inl rfl)))
    ·exact hC.lt (Or.inr (Or.inr (Or.inr (Or.inl rfl))))
    ·exact hC.lt (Or.inr (Or.inl rfl))
   exact ⟨⟨(hall b e).1,hlt⟩,(hall b e).2⟩
 ·obtain ⟨l1,l2⟩:=hR.lt
  exact hR.of_blocks fun b hb=>by rcases hb with rfl|rfl<;>exact f17 _ (by assumption) (by omega) (by omega)
 ·obtain ⟨l1,l2⟩:=hR.lt
  intro b hb
  rcases hb with rfl|rfl
  ·exact ⟨bR.1,l1⟩
  ·exact ⟨bR.2,l2⟩
 ·refine hQ.of_blocks fun b hb=>?_
  have hlt:=hQ.lt hb
  have:w17.heap.size≤b:=by
   rcases hb with (rfl|rfl|⟨s,hs,-⟩) |rfl
   ·exact bQ.1
   ·exact bQ.2.1
   ·cases hs
   ·exact bQ.2.2
  exact f18 b hlt (by omega) (by omega)
 ·intro b hb
  rcases hb with rfl|rfl|rfl
  ·exact ⟨bQ.1,hQ.lt (Or.inl (Or.inl rfl))⟩
  ·exact ⟨bQ.2.1,hQ.lt (Or.inl (Or.inr (Or.inl rfl)))⟩
  ·exact ⟨bQ.2.2,hQ.lt (Or.inr rfl)⟩
 ·obtain ⟨l1,l2⟩:=hT.lt
  exact hT.of_blocks fun b hb=>by rcases hb with rfl|rfl<;>exact f19 _ (by assumption) (by omega) (by omega)
 ·obtain ⟨l1,l2⟩:=hT.lt
  intro b hb
  rcases hb with rfl|rfl
  ·exact ⟨bT.1,l1⟩
  ·exact ⟨bT.2,l2⟩
 ·obtain ⟨l1,l2⟩:=hO.lt
  exact hO.of_blocks fun b hb=>by rcases hb with rfl|rfl<;>exact f20 _ (by assumption) (by omega) (by omega)
 ·obtain ⟨l1,l2⟩:=hO.lt
  intro b hb
  rcases hb with rfl|rfl
  ·exact ⟨bO.1,l1⟩
  ·exact ⟨bO.2,l2⟩
 ·exact md.tmap.of_block (fd th htd (by omega) d6)
end Go.Proofs.YtaangaogmnlljaaGreatDoor.Kn
