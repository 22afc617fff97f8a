/- Part 3 of what the proof stands on: AsmA. -/
import Derived.Test.YtaangaogmnlljaaGreatDoorProg
import Derived.Test.YtaangaogmnlljaaGreatDoorP01
set_option linter.unusedVariables false
set_option maxHeartbeats 40000000
namespace Go.Proofs.YtaangaogmnlljaaGreatDoor.Asm
open Go.RowKit
theorem digit_any (c:Int) (h1:48≤c) (h2:c≤57) (w:World):
  Calls Tryz.prog 370 #[.int .u8 c, .int .u64 10] w fun e w'=>e= .returned (.tuple #[.int .u64 (c - 48), .bool true])∧w=w':=by
 go_enter Tryz.func370,Tryz.ntmps370
 go_wp2
 go_ret2
 refine ⟨?_,rfl⟩
 simp
 omega
theorem val_snoc (l:Str) (c:UInt8):valL (l++ [c])=valL l*10+(c.toNat - 48):=by simp[valL]
theorem val_foldl (l:Str) (a:Nat):a≤l.foldl (fun v c=>v*10+(c.toNat - 48)) a:=by
 induction l generalizing a with
 |nil=>exact Nat.le_refl _
 |cons c l ih=>exact Nat.le_trans (by omega) (ih (a*10+(c.toNat - 48)))
theorem val_take (l:Str) (k:Nat):valL (l.take k)≤valL l:=by
 have:valL l=(l.drop k).foldl (fun v c=>v*10+(c.toNat - 48)) (valL (l.take k)):=by
  unfold valL
  rw[←List.foldl_append,List.take_append_drop]
 rw[this]
 exact val_foldl _ _
theorem take_snoc (s:ByteArray) (k:Nat) (h:k<s.size):s.data.toList.take (k+1)=s.data.toList.take k++ [s[k]]:=by
 rw[List.take_succ_eq_append_getElem (by simpa using h)];rfl
theorem a1.q28 {P:Prop} (h:P:=by
 by_cases h2:2≤s.size
 ·have h2I:(2:Int)≤(s.size:Int):=by omega
  have d1:=hdig 1 (by omega)
  have hx:((s[1].toNat:Int)==120)=false:=beq_eq_false_iff_ne.2 (by omega)
  clear h hd hl hv hlt h0 hdig
  go_enter Tryz.func330,Tryz.ntmps330
  go_upto_region 2 with fail
  go_cut [23] (fun cc wx=>cc= .bool false∧w=wx)
  case first=>
   go_wp2_with fail
   all_goals
    go_meet
    exact ⟨rfl,rfl⟩
  case rest=>
   obtain ⟨rfl,rfl⟩:=hcut
   go_wp2
   go_loop [7,8] (fun vv iv=> ∃k:Nat,k≤s.size∧iv= .int .i64 k∧vv= .int .u64 (valL (s.data.toList.take k))) (fun _ iv=>s.size - (intOf iv).toNat)
   case atStart=>exact ⟨0,by omega,rfl,rfl⟩
   case round=>
    obtain ⟨k,hk,rfl,rfl⟩:=hrel
    have hkI:(k:Int)≤(s.size:Int):=by omega
    by_cases hlt:k<s.size
    ·exact m36
    exact m76
 ·have h2I:(s.size:Int)<2:=by omega
  clear h hd hl hv hlt h0 hdig
  go_enter Tryz.func330,Tryz.ntmps330
  go_wp2
  all_goals
   go_loop [7,8] (fun vv iv=> ∃k:Nat,k≤s.size∧iv= .int .i64 k∧vv= .int .u64 (valL (s.data.toList.take k))) (fun _ iv=>s.size - (intOf iv).toNat)
   case atStart=>exact ⟨0,by omega,rfl,rfl⟩
   case round=>
    obtain ⟨k,hk,rfl,rfl⟩:=hrel
    have hkI:(k:Int)≤(s.size:Int):=by omega
    by_cases hlt:k<s.size
    ·have hltI:(k:Int)<(s.size:Int):=by omega
     have hk20:(k:Int)<20:=by omega
     obtain ⟨d1,d2⟩:=HDg.out k hlt
     have hb1:=HLt.out (k+1)
     rw[take_snoc s k hlt,val_snoc] at hb1
     have HSn:Hid (valL (s.data.toList.take (k+1))=valL (s.data.toList.take k)*10+(s[k].toNat - 48)):=Lib.hid (by rw[take_snoc s k hlt,val_snoc])
     obtain ⟨a,ha⟩: ∃a:Int,a=(valL (s.data.toList.take k):Int):=⟨_,rfl⟩
     obtain ⟨c,hc⟩: ∃c:Int,c=(s[k].toNat:Int):=⟨_,rfl⟩
     have ha0:0≤a:=by omega
     have hab:a*10+(c - 48)<18446744073709551616:=by omega
     have HA:=Lib.hid ha
     have HC:=Lib.hid hc
     rw[←ha]
     have HD:=Lib.hid (digit_any c (by omega) (by omega) w)
     have f1:decide ((20:Int)≤(k:Int))=false:=by simp;omega
     have f2:decide ((18446744073709551615 - (c - 48))/10<a)=false:=by simp;omega
     have hc48:48≤c:=by omega
     have hc57:c≤57:=by omega
     have HFin:Hid (a*10+(c - 48)=(valL (s.data.toList.take (k+1)):Int)):=Lib.hid (by rw[HSn.out];omega)
     clear hb1 ha d1 d2
     go_wp2_with fail
     rw[←hc]
     clear hc
     refine HD.out.mono ?_
     rintro e w' ⟨rfl,rfl⟩
     go_wp2
     go_round
     case rel=>first|exact ⟨k+1,by omega,by go_num,by rw[←HFin.out]⟩ |((repeat apply Exists.intro);exact ⟨⟨k+1,by omega,by go_num,by rw[←HFin.out]⟩,rfl⟩)
     case measure=>simp[intOf];omega
    ·obtain rfl:k=s.size:=by omega
     have HFin:Hid ((valL (s.data.toList.take s.size):Int)=v):=Lib.hid (by rw[←HV.out,List.take_of_length_le (by simp)])
     go_wp2
     go_ret2
     first|exact ⟨rfl,rfl⟩ |exact ⟨by rw[←HFin.out];rfl,rfl⟩):P:=h
theorem a1.q36 {P:Prop} (h:P:=by
 have HD:=Lib.hid (digit_any c (by omega) (by omega) w)
 have f1:decide ((20:Int)≤(k:Int))=false:=by simp;omega
 have f2:decide ((18446744073709551615 - (c - 48))/10<a)=false:=by simp;omega
 exact m35):P:=h
open a1 in
set_option maxRecDepth 100000 in
theorem parse_any (s:ByteArray) (v:Int) (h:numL s.data.toList=some v) (w:World):
  Calls Tryz.prog 330 #[.string s] w fun e w'=>e= .returned (.tuple #[.int .u64 v, .nilIface])∧w=w':=by
 exact m28
theorem number_any (s:ByteArray) (n v:Int) (h:numL s.data.toList=some v) (w:World):
  Calls Tryz.prog 277 #[.string s, .int .i64 n] w fun e w'=>e= .returned (.tuple #[.int .u64 v, .nilIface])∧w=w':=by
 have H:=Lib.hid (parse_any s v h w)
 clear h
 go_enter Tryz.func277,Tryz.ntmps277
 go_wp2_with fail
 refine H.out.mono ?_
 rintro e w' ⟨rfl,rfl⟩
 go_wp2
 go_ret2
 exact ⟨rfl,rfl⟩
end Go.Proofs.YtaangaogmnlljaaGreatDoor.Asm
namespace Go.Proofs.YtaangaogmnlljaaGreatDoor.Asm
open Go.RowKit
def RegOut (s:Str) (w:World) (e:Ending) (w':World):Prop:= ∃n:Int,e= .returned (.tuple #[.int .i64 n, .bool (regL s).isSome])∧(∀r,regL s=some r→n=r)∧w=w'
theorem digit_iff (c:UInt8):isDigit c=true↔48≤(c.toNat:Int)∧(c.toNat:Int)≤57:=by simp[isDigit];omega
theorem eq_byte (c d:UInt8):((c.toNat:Int)=(d.toNat:Int))↔c=d:=by rw[←UInt8.toNat_inj];omega
theorem at_list (s:ByteArray) (k:Nat) (h:k<s.size):s.data.toList[k]?=some s[k]:=by
 rw[List.getElem?_eq_getElem (by simpa using h)];rfl
theorem len_list (s:ByteArray):s.data.toList.length=s.size:=by simp
theorem reg_out_no {s:Str} {w:World} (n:Int) (h:regL s=none):RegOut s w (.returned (.tuple #[.int .i64 n, .bool false])) w:=
 ⟨n,by rw[h];rfl,(fun r hr=>by rw[h] at hr;cases hr),rfl⟩
def regTo (s:Str) (k:Nat):Nat:=valL ((s.drop 1).take (k - 1))
set_option maxRecDepth 100000 in
theorem register_any (s:ByteArray) (w:World) (hs:s.size≤9223372036854775807):Calls Tryz.prog 275 #[.string s] w (RegOut s.data.toList w):=by
 have hsI:(s.size:Int)≤9223372036854775807:=by omega
 clear hs
 by_cases h1:s.size<2
 ·have hr:regL s.data.toList=none:=by unfold regL;rw[if_neg];rw[len_list];omega
  have h1I:(s.size:Int)<2:=by omega
  have HR:=Lib.hid hr
  clear hr
  exact m52
 by_cases h2:3<s.size
 ·have hr:regL s.data.toList=none:=by unfold regL;rw[if_neg];rw[len_list];omega
  have h1I:(2:Int)≤(s.size:Int):=by omega
  have h2I:(3:Int)<(s.size:Int):=by omega
  have HR:=Lib.hid hr
  clear hr
  exact m52
 have h1I:(2:Int)≤(s.size:Int):=by omega
 have h2I:(s.size:Int)≤3:=by omega
 by_cases h3:s[0]=114
 case neg=>
  have hr:regL s.data.toList=none:=by unfold regL;rw[if_neg];rw[at_list s 0 (by omega)];intro h;exact h3 (Option.some.inj h.2.1)
  have h3b:((s[0].toNat:Int) !=114)=true:=by rw[bne_iff_ne];intro h;exact h3 ((eq_byte s[0] 114).1 h)
  have HR:=Lib.hid hr
  clear hr h3
  exact m52
 have h3b:((s[0].toNat:Int) !=114)=false:=by rw[bne_eq_false_iff_eq];exact (eq_byte s[0] 114).2 h3
 have h1s:1<s.size:=by omega
 by_cases h4:s.size=3∧s[1]'h1s=48
 ·have hr:regL s.data.toList=none:=by
   unfold regL;rw[if_neg];rw[at_list s 1 (by omega)];intro h;exact h.2.2.1 ⟨by rw[len_list];exact h4.1,by rw[h4.2]⟩
  have h4a:((s.size:Int)==3)=true:=beq_iff_eq.2 (by omega)
  have h4b:(((s[1]'h1s).toNat:Int)==48)=true:=beq_iff_eq.2 ((eq_byte (s[1]'h1s) 48).2 h4.2)
  have HR:=Lib.hid hr
  clear hr h4 h3
  exact m52
 have h4a:s.size=2→((s.size:Int)==3)=false:=fun h=>beq_eq_false_iff_ne.2 (by omega)
 have h4b:s.size=3→(((s[1]'h1s).toNat:Int)==48)=false:=fun h=>beq_eq_false_iff_ne.2 (fun e=>h4 ⟨h,(eq_byte (s[1]'h1s) 48).1 e⟩)
 have hreg: ∀k (hk:k<s.size),1≤k→isDigit s[k]=false→regL s.data.toList=none:=by
  intro k hk hk1 hd
  unfold regL
  rw[if_neg]
  intro h
  have:=List.all_eq_true.1 h.2.2.2.1 s[k] (List.mem_of_getElem? (i:=k - 1) (by rw[List.getElem?_drop,show 1+(k - 1)=k by omega];exact at_list s k hk))
  rw[hd] at this;cases this
 have hto: ∀k (hk:k<s.size),1≤k→regTo s.data.toList (k+1)=regTo s.data.toList k*10+(s[k].toNat - 48):=by
  intro k hk hk1
  unfold regTo
  have e:(s.data.toList.drop 1).take (k+1 - 1)=(s.data.toList.drop 1).take (k - 1)++ [s[k]]:=by
   rw[show k+1 - 1=(k - 1)+1 by omega,List.take_add_one]
   rw[List.getElem?_drop,show 1+(k - 1)=k by omega,at_list s k hk]
   rfl
  rw[e,val_snoc]
 have hall:(∀k (hk:k<s.size),1≤k→isDigit s[k]=true)→(regL s.data.toList).isSome=decide ((regTo s.data.toList s.size:Int)<32)∧ ∀r,regL s.data.toList=some r→(regTo s.data.toList s.size:Int)=r:=by
  intro hd
  have e:regTo s.data.toList s.size=valL (s.data.toList.drop 1):=by
   unfold regTo
   rw[List.take_of_length_le (by rw[List.length_drop,len_list];exact Nat.le_refl _)]
  have ha:(s.data.toList.drop 1).all isDigit=true:=by
   rw[List.all_eq_true]
   intro x hx
   obtain ⟨j,hj,rfl⟩:=List.getElem_of_mem hx
   rw[List.getElem_drop]
   have hj':1+j<s.size:=by rw[List.length_drop,len_list] at hj;omega
   exact hd (1+j) hj' (by omega)
  have hc: ¬(s.data.toList.length=3∧s.data.toList[1]?=some 48):=by
   rw[len_list,at_list s 1 (by omega)]
   intro h
   exact h4 ⟨h.1,Option.some.inj h.2⟩
  rw[e]
  obtain ⟨x,hx⟩: ∃x,x=valL (s.data.toList.drop 1):=⟨_,rfl⟩
  by_cases hv:valL (s.data.toList.drop 1)<32
  ·have hr:regL s.data.toList=some ((valL (s.data.toList.drop 1):Nat):Int):=by
    unfold regL
    rw[if_pos ⟨by rw[len_list];omega,by rw[at_list s 0 (by omega),h3],hc,ha,hv⟩]
   rw[hr,←hx]
   rw[←hx] at hv
   exact ⟨(decide_eq_true (show (x:Int)<32 by omega)).symm,fun r h=>Option.some.inj h⟩
  ·have hr:regL s.data.toList=none:=by
    unfold regL
    rw[if_neg]
    intro h;exact hv h.2.2.2.2
   rw[hr,←hx]
   rw[←hx] at hv
   exact ⟨(decide_eq_false (show¬(x:Int)<32 by omega)).symm,fun r h=>by cases h⟩
 have hlt: ∀k,k≤s.size→1≤k→(∀j (hj:j<s.size),1≤j→j<k→isDigit s[j]=true)→regTo s.data.toList k≤99∧(k≤2→regTo s.data.toList k≤9):=by
  intro k hk hk1 hd
  have e1:regTo s.data.toList 1=0:=by unfold regTo;simp[valL]
  obtain rfl|rfl|rfl:k=1∨k=2∨k=3:=by omega
  ·rw[e1];omega
  ·have d1:=(digit_iff _).1 (hd 1 (by omega) (by omega) (by omega))
   rw[hto 1 (by omega) (by omega),e1];omega
  ·have d1:=(digit_iff _).1 (hd 1 (by omega) (by omega) (by omega))
   have d2:=(digit_iff _).1 (hd 2 (by omega) (by omega) (by omega))
   rw[hto 2 (by omega) (by omega),hto 1 (by omega) (by omega),e1];omega
 have HLt:=Lib.hid hlt
 have HReg:=Lib.hid hreg
 have HTo:=Lib.hid hto
 have HAll:=Lib.hid hall
 have hd1:decide ((s.size:Int)<2)=false:=decide_eq_false (by omega)
 have hd2:decide ((3:Int)<(s.size:Int))=false:=decide_eq_false (by omega)
 by_cases h5:s.size=2
 ·have h4c:=h4a h5
  have h5I:(s.size:Int)≤2:=by omega
  exact m10
 ·have h4c:((s.size:Int)==3)=true:=beq_iff_eq.2 (by omega)
  have h4d:=h4b (by omega)
  exact m10
end Go.Proofs.YtaangaogmnlljaaGreatDoor.Asm
namespace Go.Proofs.YtaangaogmnlljaaGreatDoor.Asm
open Go.RowKit
theorem low_iff (c:UInt8):isLow c=true↔97≤(c.toNat:Int)∧(c.toNat:Int)≤122:=by simp[isLow];omega
theorem name_iff (c:UInt8):isName c=true↔(97≤(c.toNat:Int)∧(c.toNat:Int)≤122)∨(48≤(c.toNat:Int)∧(c.toNat:Int)≤57):=by
 unfold isName;rw[Bool.or_eq_true,low_iff,digit_iff]
theorem head_list (s:ByteArray) (h:0<s.size):s.data.toList.head?=some s[0]:=by
 rw[List.head?_eq_getElem?];exact at_list s 0 h
theorem mem_list (s:ByteArray) (k:Nat) (h:k<s.size):s[k]∈s.data.toList:=List.mem_of_getElem? (at_list s k h)
theorem all_list {s:ByteArray} {p:UInt8→Bool} (h: ∀k (hk:k<s.size),p s[k]=true):s.data.toList.all p=true:=by
 rw[List.all_eq_true]
 intro x hx
 obtain ⟨j,hj,rfl⟩:=List.getElem_of_mem hx
 exact h j (by simpa using hj)
theorem a2.q31 {P:Prop} (h:P:=by
 go_enter Tryz.func216,Tryz.ntmps216
 go_wp2
 go_loop [3] (fun iv=> ∃k:Nat,k≤s.size∧iv= .int .i64 k∧Hid (∀j (hj:j<s.size),j<k→isName s[j]=true)) (fun iv=>s.size - (intOf iv).toNat)
 case atStart=>exact ⟨0,by omega,rfl,Lib.hid (fun j _ h=>by omega)⟩
 case round=>
  obtain ⟨k,hk,rfl,HD⟩:=hrel
  have hkI:(k:Int)≤(s.size:Int):=by omega
  by_cases hlt:k<s.size
  ·have hltI:(k:Int)<(s.size:Int):=by omega
   by_cases hdg:isName s[k]=true
   ·have HNx:Hid (∀j (hj:j<s.size),j<k+1→isName s[j]=true):=Lib.hid (fun j hj h2=>by
     by_cases e:j=k
     ·subst e;exact hdg
     ·exact HD.out j hj (by omega))
    have hor:=(name_iff _).1 hdg
    clear hdg
    rcases hor with ⟨d1,d2⟩ |⟨d1,d2⟩
    ·have c1:decide ((s[k].toNat:Int)<97)=false:=decide_eq_false (by omega)
     have c2:decide ((122:Int)<(s[k].toNat:Int))=false:=decide_eq_false (by omega)
     exact m58
    ·have c1:decide ((s[k].toNat:Int)<97)=true:=decide_eq_true (by omega)
     have c2:decide ((s[k].toNat:Int)<48)=false:=decide_eq_false (by omega)
     have c3:decide ((57:Int)<(s[k].toNat:Int))=false:=decide_eq_false (by omega)
     exact m58
   ·have hr:=HNo.out k hlt (by simpa using hdg)
    have hnd: ¬((97≤(s[k].toNat:Int)∧(s[k].toNat:Int)≤122)∨(48≤(s[k].toNat:Int)∧(s[k].toNat:Int)≤57)):=fun h=>hdg ((name_iff _).2 h)
    have HR:=Lib.hid hr
    clear hdg hr
    by_cases x1:(s[k].toNat:Int)<48
    ·have c1:decide ((s[k].toNat:Int)<97)=true:=decide_eq_true (by omega)
     have c2:decide ((s[k].toNat:Int)<48)=true:=decide_eq_true (by omega)
     clear hnd x1
     go_wp2
     go_ret
     exact ⟨by rw[HR.out];rfl,rfl⟩
    ·have c2:decide ((s[k].toNat:Int)<48)=false:=decide_eq_false (by omega)
     have c3:decide ((57:Int)<(s[k].toNat:Int))=true:=decide_eq_true (by omega)
     by_cases x2:(s[k].toNat:Int)<97
     ·have c1:decide ((s[k].toNat:Int)<97)=true:=decide_eq_true (by omega)
      clear hnd x1 x2
      go_wp2
      go_ret
      exact ⟨by rw[HR.out];rfl,rfl⟩
     ·have c1:decide ((s[k].toNat:Int)<97)=false:=decide_eq_false (by omega)
      have c4:decide ((122:Int)<(s[k].toNat:Int))=true:=decide_eq_true (by omega)
      clear hnd x1 x2
      go_wp2
      go_ret
      exact ⟨by rw[HR.out];rfl,rfl⟩
  ·obtain rfl:k=s.size:=by omega
   have hfin:=HYes.out (fun j hj=>HD.out j hj hj)
   have HF:=Lib.hid hfin
   clear hfin
   go_wp2_with fail
   refine HRegC.out.mono ?_
   rintro e w' ⟨n,rfl,_,rfl⟩
   cases hr:regL s.data.toList with
   |none=>
    have HR:=Lib.hid hr
    clear hr
    simp only[Option.isSome_none]
    go_wp2
    go_ret
    exact ⟨by rw[HF.out,HR.out];rfl,rfl⟩
   |some r=>
    have HR:=Lib.hid hr
    clear hr
    simp only[Option.isSome_some]
    go_wp2
    go_ret
    exact ⟨by rw[HF.out,HR.out];rfl,rfl⟩):P:=h
theorem a2.q119 {P:Prop} (h:P:=by
 by_cases h3:isLow (s[0]'h0s)=true
 case neg=>
  have hr:namedL s.data.toList=false:=by
   unfold namedL;rw[head_list s h0s]
   simp[h3]
  have hnd: ¬(97≤((s[0]'h0s).toNat:Int)∧((s[0]'h0s).toNat:Int)≤122):=fun h=>h3 ((low_iff _).2 h)
  rw[hr]
  clear hr h3
  by_cases hlo:((s[0]'h0s).toNat:Int)<97
  ·clear hnd
   exact m60
  ·have hhi:(122:Int)<((s[0]'h0s).toNat:Int):=by omega
   clear hnd
   exact m60
 exact m31):P:=h
open a2 in
set_option maxRecDepth 100000 in
theorem named_any (s:ByteArray) (w:World) (hs:s.size≤9223372036854775807):Calls Tryz.prog 216 #[.string s] w fun e w'=>e= .returned (.bool (namedL s.data.toList))∧w=w':=by
 have HRegC:=Lib.hid (register_any s w hs)
 have hsI:(s.size:Int)≤9223372036854775807:=by omega
 clear hs
 by_cases h1:s.size<1
 ·have hr:namedL s.data.toList=false:=by unfold namedL;rw[decide_eq_false (by rw[len_list];omega)];rfl
  have h1I:(s.size:Int)<1:=by omega
  rw[hr]
  clear hr
  exact m60
 by_cases h2:16<s.size
 ·have hr:namedL s.data.toList=false:=by unfold namedL;rw[decide_eq_false (by rw[len_list];omega)];rfl
  have h1I:(1:Int)≤(s.size:Int):=by omega
  have h2I:(16:Int)<(s.size:Int):=by omega
  rw[hr]
  clear hr
  exact m60
 exact m119
end Go.Proofs.YtaangaogmnlljaaGreatDoor.Asm
namespace Go.Proofs.YtaangaogmnlljaaGreatDoor.Asm
open Go.RowKit
def namesL:Str:=opNames.flatMap (· ++ [32])
def startL (m:Nat):Nat:=((opNames.take m).flatMap (· ++ [32])).length
theorem names_split (m:Nat) (hm:m<opNames.length):namesL=(opNames.take m).flatMap (· ++ [32])++(opNames[m]++32::(opNames.drop (m+1)).flatMap (· ++ [32])):=by
 unfold namesL
 conv=>lhs;rw[←List.take_append_drop m opNames]
 rw[List.flatMap_append,List.drop_eq_getElem_cons hm,List.flatMap_cons]
 simp
theorem start_succ (m:Nat) (hm:m<opNames.length):startL (m+1)=startL m+opNames[m].length+1:=by
 unfold startL
 rw[List.take_succ_eq_append_getElem hm,List.flatMap_append]
 simp
 omega
theorem names_at (m j:Nat) (hm:m<opNames.length) (hj:j<opNames[m].length):namesL[startL m+j]?=some (opNames[m][j]):=by
 rw[names_split m hm,List.getElem?_append_right (by unfold startL;omega)]
 rw[show startL m+j - ((opNames.take m).flatMap (· ++ [32])).length=j by unfold startL;omega]
 rw[List.getElem?_append_left hj]
 exact List.getElem?_eq_getElem hj
theorem names_end (m:Nat) (hm:m<opNames.length):namesL[startL m+opNames[m].length]?=some 32:=by
 rw[names_split m hm,List.getElem?_append_right (by unfold startL;omega)]
 rw[show startL m+opNames[m].length - ((opNames.take m).flatMap (· ++ [32])).length=opNames[m].length by unfold startL;omega]
 rw[List.getElem?_append_right (Nat.le_refl _)]
 simp
theorem names_part (m:Nat) (hm:m<opNames.length):(namesL.drop (startL m)).take opNames[m].length=opNames[m]:=by
 rw[names_split m hm,List.drop_append_of_le_length (by unfold startL;omega)]
 rw[List.drop_of_length_le (by unfold startL;omega),List.nil_append,List.take_left']
 rfl
theorem no_blank: ∀x∈opNames,∀c∈x,c≠32:=by decide+kernel
theorem op_len:opNames.length=58:=by decide+kernel
theorem start_58:startL 58=227:=by decide+kernel
theorem bytes_toList (s:ByteArray):s.toList=s.data.toList:=by
 exact ByteArray.toList_eq s
theorem opAux_skip (s:Str): ∀(l:List Str) (n:Int) (m:Nat),(∀x∈l.take m,x≠s)→m≤l.length→opAux s l n=opAux s (l.drop m) (n+m)
 |l,n,0,_,_=>by simp
 |[],n,m+1,_,h=>by simp at h
 |x::l,n,m+1,hx,h=>by
  have h1:x≠s:=hx x (by simp)
  rw[opAux,if_neg h1,List.drop_succ_cons,opAux_skip s l (n+1) m (fun y hy=>hx y (by simp[hy])) (by simpa using h)]
  congr 1
  omega
def namesB:ByteArray:=⟨#[115,101,116,32,109,111,118,32,97,100,100,32,115,117,98,32,97,110,100,32,111,114,32,120,111,114,32,115,104,108,32,115,104,114,32,101,113,32,108,116,32,106,109,112,32,106,122,32,106,110,122,32,106,115,114,32,114,101,116,32,108,100,32,115,116,32,115,119,112,32,102,97,100,32,99,97,115,32,99,97,108,108,32,104,115,104,32,113,112,116,32,113,116,107,32,113,109,118,32,113,104,115,32,115,108,112,32,104,110,100,32,112,105,107,32,108,97,121,32,116,97,107,32,105,110,106,32,105,106,116,32,114,117,110,32,112,114,107,32,115,108,102,32,119,114,107,32,119,107,100,32,119,107,110,32,110,111,119,32,100,114,119,32,103,101,116,32,102,114,101,32,111,98,106,32,100,101,108,32,99,107,112,32,116,110,119,32,116,115,116,32,116,104,109,32,116,106,110,32,116,100,116,32,116,101,120,32,116,114,112,32,101,110,100,32,121,108,100,32,99,98,107,32,102,105,110,32]⟩
theorem namesB_eq:namesB.data.toList=namesL:=by decide+kernel
theorem namesB_size:namesB.size=227:=by decide+kernel
theorem start_mono (m:Nat) (hm:m≤58):startL m≤227:=by
 rw[←start_58]
 unfold startL
 refine List.Sublist.length_le ?_
 have e:opNames.take 58=opNames.take m++(opNames.drop m).take (58 - m):=by rw[←List.take_add];congr 1;omega
 rw[e,List.flatMap_append]
 exact List.sublist_append_left _ _
theorem namesB_get (i:Nat) (h:i<namesB.size) (c:UInt8) (hc:namesL[i]?=some c):namesB[i]=c:=by
 have:=at_list namesB i h
 rw[namesB_eq,hc] at this
 exact (Option.some.inj this).symm
theorem namesB_part (m:Nat) (hm:m<opNames.length):(namesB.extract (startL m) (startL m+opNames[m].length)).data.toList=opNames[m]:=by
 rw[ByteArray.data_extract]
 simp only[Array.toList_extract,List.extract_eq_take_drop]
 rw[namesB_eq,Nat.add_sub_cancel_left,names_part m hm]
set_option maxRecDepth 100000 in
theorem op_any (s:ByteArray) (w:World):Calls Tryz.prog 217 #[.string s] w fun e w'=>e= .returned (.int .i64 (opL s.data.toList))∧w=w':=by
 go_enter Tryz.func217,Tryz.ntmps217
 go_wp2
 go_loop [3,4,5] (fun av nv iv=> ∃m j:Nat,m≤58∧av= .int .i64 (startL m)∧nv= .int .i64 ((m:Int)+1)∧iv= .int .i64 ((startL m+j:Nat):Int)∧startL m+j≤227∧Hid (∀hm:m<opNames.length,j≤opNames[m].length)∧Hid (∀x∈opNames.take m,x≠s.data.toList)) (fun _ _ iv=>227 - (intOf iv).toNat)
 case atStart=>exact ⟨0,0,by omega,rfl,rfl,rfl,by decide,Lib.hid (fun _=>Nat.zero_le _),Lib.hid (fun x hx=>by simp at hx)⟩
 case round=>
  obtain ⟨m,j,hm,rfl,rfl,rfl,hij,HJ,HX⟩:=hrel
  obtain ⟨i,hI⟩: ∃i,i=startL m+j:=⟨_,rfl⟩
  rw[←hI] at hij ⊢
  have hijI:(i:Int)≤227:=by omega
  by_cases hlt:m<58
  ·have hl:m<opNames.length:=by rw[op_len];exact hlt
   have hj:=HJ.out hl
   have hss:=start_succ m hl
   have hsl2:=start_mono (m+1) (by omega)
   have hlt2:i<227:=by omega
   have hsz:i<namesB.size:=by rw[namesB_size];exact hlt2
   have hltI:(i:Int)<227:=by omega
   have hsI:(startL m:Int)≤(i:Int):=by omega
   have hsN:startL m≤i:=by omega
   by_cases hjl:j<opNames[m].length
   ·have hb:((namesB[i].toNat:Int) !=32)=true:=by
     rw[namesB_get i hsz _ (by rw[hI];exact names_at m j hl hjl),bne_iff_ne]
     intro e
     exact no_blank _ (List.getElem_mem hl) _ (List.getElem_mem hjl) ((eq_byte _ 32).1 e)
    have HNx:Hid (∀hm:m<opNames.length,j+1≤opNames[m].length):=Lib.hid (fun _=>hjl)
    have hi1:startL m+(j+1)≤227:=by omega
    have HIe:Hid ((i:Int)+1=((startL m+(j+1):Nat):Int)):=Lib.hid (by omega)
    clear hI hss hsl2 hlt2 hjl
    have HB:=Lib.hid hb
    clear hb
    go_wp2
    all_goals first
     |(exfalso;have hz:((namesB[i].toNat:Int) !=32)=false:=by assumption
       rw[HB.out] at hz;cases hz)
     |(go_round
       case rel=>exact ⟨m,j+1,hm,rfl,rfl,by rw[HIe.out],hi1,HNx,HX⟩
       case measure=>simp[intOf];omega)
   ·obtain rfl:j=opNames[m].length:=by omega
    have hb:((namesB[i].toNat:Int) !=32)=false:=by
     rw[namesB_get i hsz _ (by rw[hI];exact names_end m hl)];rfl
    have hpart:=namesB_part m hl
    rw[←hI] at hpart
    by_cases heq:opNames[m]=s.data.toList
    ·have he:((namesB.extract (startL m) i).toList==s.toList)=true:=by
      rw[beq_iff_eq,bytes_toList,bytes_toList,hpart];exact heq
     have HFin:Hid ((m:Int)+1=opL s.data.toList):=Lib.hid (by
      unfold opL
      rw[opAux_skip s.data.toList opNames 1 m HX.out (by omega),List.drop_eq_getElem_cons hl,opAux,if_pos heq]
      omega)
     clear hI hss hsl2 hlt2 hjl hpart heq
     have HB:=Lib.hid hb
     have HE:=Lib.hid he
     clear hb he
     go_wp2
     all_goals first
      |(exfalso;have hz:((namesB[i].toNat:Int) !=32)=true:=by assumption
        rw[HB.out] at hz;cases hz)
      |(exfalso;have hz:((namesB.extract (startL m) i).toList==s.toList)=false:=by assumption
        rw[HE.out] at hz;cases hz)
      |(go_ret
        exact ⟨by rw[←HFin.out];rfl,rfl⟩)
    ·have he:((namesB.extract (startL m) i).toList==s.toList)=false:=by
      rw[beq_eq_false_iff_ne,bytes_toList,bytes_toList,hpart];exact heq
     have HX2:Hid (∀x∈opNames.take (m+1),x≠s.data.toList):=Lib.hid (by
      intro x hx
      rw[List.take_succ_eq_append_getElem hl] at hx
      rcases List.mem_append.1 hx with hx|hx
      ·exact HX.out x hx
      ·rw[List.mem_singleton] at hx;rw[hx];exact heq)
     have HIe:Hid ((i:Int)+1=(startL (m+1):Int)):=Lib.hid (by rw[hss];omega)
     clear hI hss hlt2 hjl hpart heq
     have HB:=Lib.hid hb
     have HE:=Lib.hid he
     clear hb he
     go_wp2
     all_goals first
      |(exfalso;have hz:((namesB[i].toNat:Int) !=32)=true:=by assumption
        rw[HB.out] at hz;cases hz)
      |(exfalso;have hz:((namesB.extract (startL m) i).toList==s.toList)=true:=by assumption
        rw[HE.out] at hz;cases hz)
      |(go_round
        case rel=>exact ⟨m+1,0,by omega,by rw[HIe.out],by go_num,by rw[HIe.out];rfl,hsl2,Lib.hid (fun _=>Nat.zero_le _),HX2⟩
        case measure=>simp[intOf];omega)
  ·obtain rfl:m=58:=by omega
   have HFin:Hid (opL s.data.toList=0):=Lib.hid (by
    unfold opL
    rw[opAux_skip s.data.toList opNames 1 58 HX.out (by rw[op_len];exact Nat.le_refl _)]
    rw[List.drop_of_length_le (by rw[op_len];exact Nat.le_refl _)]
    rfl)
   obtain rfl:j=0:=by rw[start_58] at hI;omega
   obtain rfl:i=227:=by rw[hI,start_58]
   rw[start_58]
   have hd:decide ((227:Int)<227)=false:=by decide
   go_wp2
   go_ret
   exact ⟨by rw[HFin.out];rfl,rfl⟩
end Go.Proofs.YtaangaogmnlljaaGreatDoor.Asm
namespace Go.Proofs.YtaangaogmnlljaaGreatDoor.Asm
open Go.RowKit
set_option maxRecDepth 100000 in
theorem slib_any (s:ByteArray) (c:Int) (w:World):
  Calls Tryz.prog 329 #[.string s, .int .u8 c] w fun e w'=>e= .returned (.int .i64 (Lib.indexByte s.data.toList c.toNat.toUInt8))∧w'=w:=by
 go_enter Tryz.func329,Tryz.ntmps329
 go_wp2
 rw[run_callFunc_extern Tryz.func369 (by kernel_rfl) (by kernel_rfl) (by kernel_rfl) (e:=Extern.BytealgIndexByte.indexByte) (by kernel_rfl),Lib.run_indexByteString]
 simp only[Result.andThen]
 rw[Oper.upon_value]
 go_wp2
 go_ret
 exact ⟨rfl,rfl⟩
theorem indexByte_any (s:ByteArray) (c:Int) (w:World):
  Calls Tryz.prog 274 #[.string s, .int .u8 c] w fun e w'=>e= .returned (.int .i64 (Lib.indexByte s.data.toList c.toNat.toUInt8))∧w'=w:=by
 go_enter Tryz.func274,Tryz.ntmps274
 go_wp2_with (go_at_call 329;refine (slib_any _ _ _).mono ?_;rintro e w' ⟨rfl,rfl⟩)
 go_ret
 exact ⟨rfl,rfl⟩
theorem hasSuffix_any (s p:ByteArray) (w:World) (hs:s.size≤9223372036854775807):
  Calls Tryz.prog 279 #[.string s, .string p] w fun e w'=>e= .returned (.bool (Lib.hasSuffix s.data.toList p.data.toList))∧w'=w:=by
 rw[←Lib.hasSuffix_raw]
 have hlo:p.size≤s.size→((s.size:Int) - (p.size:Int)+9223372036854775808)%18446744073709551616 - 9223372036854775808=((s.size - p.size:Nat):Int):=fun _=>by omega
 go_enter Tryz.func279,Tryz.ntmps279
 go_wp2
 ·have h:p.size≤s.size:=by assumption
  go_ret
  refine ⟨?_,rfl⟩
  show Ending.returned (Value.bool ((s.extract (s.size - p.size) s.size).toList==p.toList))=_
  simp[h]
 ·have h: ¬p.size≤s.size:=by assumption
  go_ret
  refine ⟨?_,rfl⟩
  show Ending.returned (Value.bool false)=_
  simp[h]
end Go.Proofs.YtaangaogmnlljaaGreatDoor.Asm
namespace Go.Proofs.YtaangaogmnlljaaGreatDoor.Asm
open Go.RowKit
structure Keeps (X:Nat→Prop) (w w':World):Prop where
 os:w'.os=w.os
 tape:w'.tape=w.tape
 output:w'.output=w.output
 size:w.heap.size≤w'.heap.size
 block: ∀k,k<w.heap.size→ ¬X k→w'.heap[k]?=w.heap[k]?
theorem Keeps.refl (X:Nat→Prop) (w:World):Keeps X w w:=⟨rfl,rfl,rfl,Nat.le_refl _,fun _ _ _=>rfl⟩
theorem Keeps.trans {X Y:Nat→Prop} {a b c:World} (h:Keeps X a b) (k:Keeps Y b c) (hXY: ∀i,Y i→X i∨a.heap.size≤i):Keeps X a c:=
 ⟨k.os.trans h.os,k.tape.trans h.tape,k.output.trans h.output,Nat.le_trans h.size k.size,fun i hi hx=>(k.block i (Nat.lt_of_lt_of_le hi h.size) (fun hy=>(hXY i hy).elim hx (by omega))).trans (h.block i hi hx)⟩
theorem Keeps.ofBelow {X:Nat→Prop} {w w':World} (h:Below w.heap.size w w'):Keeps X w w':=⟨h.os,h.tape,h.output,h.size,fun k hk _=>h.block k hk⟩
theorem Keeps.below {X:Nat→Prop} {B:Nat} {a w w':World} (hb:Below B a w) (h:Keeps X w w') (hB:B≤w.heap.size) (hX: ∀i,X i→B≤i):Below B a w':=
 hb.trans ⟨h.os,h.tape,h.output,h.size,fun k hk=>h.block k (by omega) (fun hx=>by have:=hX k hx;omega)⟩
theorem Keeps.mono {X Y:Nat→Prop} {w w':World} (h:Keeps X w w') (hXY: ∀i,X i→Y i):Keeps Y w w':=⟨h.os,h.tape,h.output,h.size,fun k hk hy=>h.block k hk (fun hx=>hy (hXY k hx))⟩
theorem Keeps.alloc {X:Nat→Prop} {a w:World} (h:Keeps X a w) (o:Obj):Keeps X a (w.alloc o):=
 h.trans (Keeps.ofBelow (X:=X) ((Below.refl _ w).alloc (Nat.le_refl _) o)) fun _ hx=>Or.inl hx
theorem Keeps.drew {X:Nat→Prop} {a w:World} (h:Keeps X a w):Keeps X a w.drew:=⟨h.os,h.tape,h.output,h.size,h.block⟩
theorem Keeps.drewN {X:Nat→Prop} {a w:World} (h:Keeps X a w) (q:Nat):Keeps X a (w.drewN q):=⟨h.os,h.tape,h.output,h.size,h.block⟩
theorem Keeps.setCell {X:Nat→Prop} {a w:World} (h:Keeps X a w) {p:Addr} (hp:X p.block) (u:Value):Keeps X a (w.setCell p u):=
 h.trans (Y:=X) ⟨rfl,rfl,rfl,by simp[World.setCell],fun k _ hk=>Below.heap_setCell _ _ _ _ (fun e=>hk (e▸hp))⟩ fun _ hx=>Or.inl hx
theorem Keeps.grown {X:Nat→Prop} {a w w':World} {row:Option Nat} (h:Keeps X a w) (hg:w.grownBy w' row) (hr: ∀k,row=some k→X k):Keeps X a w':=
 h.trans (Y:=X) ⟨hg.os,hg.tape,hg.output,hg.size,fun k hk hx=>hg.block k hk (fun e=>hx (hr k e.symm))⟩ fun _ hx=>Or.inl hx
theorem Keeps.cell {X:Nat→Prop} {w w':World} (h:Keeps X w w') {p:Addr} (hl:p.block<w.heap.size) (hx: ¬X p.block):w'.cell? p=w.cell? p:=World.cell?_of_block (h.block _ hl hx)
theorem Keeps.frozen {X:Nat→Prop} {w w':World} (h:Keeps X w w') {p:Addr} (hl:p.block<w.heap.size) (hx: ¬X p.block):w'.frozen? p=w.frozen? p:=World.frozen?_of_block (h.block _ hl hx)
theorem set_block {w:World} {X k:Nat} {C:Array Value} {t:TypeId} {fr:Nat×Nat} (h:w.heap[X]?=some (.cells C t fr)) (u:Value):(w.setCell ⟨X,k,none⟩ u).heap[X]?=some (.cells (C.setIfInBounds k u) t fr):=by
 simp[Sort.setCell_eq,Sort.mapBlock,Array.getElem?_modify,h,Sort.onCells]
def insV (x:InsL):Array Value:=#[.int .i64 x.op, .int .i64 x.a, .int .i64 x.b, .int .i64 x.c, .int .u64 x.v, .int .i64 x.m, .int .i64 x.w]
def InsAt (w:World) (X:Nat) (x:InsL):Prop:=w.heap[X]?=some (.cells (insV x) 68 (0,0))
section
variable {w w':World} {X:Nat} {x:InsL}
theorem InsAt.lt (h:InsAt w X x):X<w.heap.size:=(Array.getElem?_eq_some_iff.1 h).1
theorem InsAt.cell (h:InsAt w X x):w.cell? ⟨X,0,none⟩=some (.int .i64 x.op)∧w.cell? ⟨X,1,none⟩=some (.int .i64 x.a)∧w.cell? ⟨X,2,none⟩=some (.int .i64 x.b)∧w.cell? ⟨X,3,none⟩=some (.int .i64 x.c)∧w.cell? ⟨X,4,none⟩=some (.int .u64 x.v)∧w.cell? ⟨X,5,none⟩=some (.int .i64 x.m)∧w.cell? ⟨X,6,none⟩=some (.int .i64 x.w)∧ ∀o,w.frozen? ⟨X,o,none⟩=false:=by
 unfold InsAt insV at h
 refine ⟨by simp[World.cell?,h],by simp[World.cell?,h],by simp[World.cell?,h],by simp[World.cell?,h],by simp[World.cell?,h],by simp[World.cell?,h],by simp[World.cell?,h],fun o=>by simp[World.frozen?,h]⟩
theorem InsAt.keeps {Y:Nat→Prop} (h:InsAt w X x) (k:Keeps Y w w') (hx: ¬Y X):InsAt w' X x:=(k.block X h.lt hx).trans h
theorem InsAt.setA (h:InsAt w X x) (n:Int):InsAt (w.setCell ⟨X,1,none⟩ (.int .i64 n)) X { x with a:=n}:=set_block h _
theorem InsAt.setB (h:InsAt w X x) (n:Int):InsAt (w.setCell ⟨X,2,none⟩ (.int .i64 n)) X { x with b:=n}:=set_block h _
theorem InsAt.setC (h:InsAt w X x) (n:Int):InsAt (w.setCell ⟨X,3,none⟩ (.int .i64 n)) X { x with c:=n}:=set_block h _
theorem InsAt.setV (h:InsAt w X x) (n:Int):InsAt (w.setCell ⟨X,4,none⟩ (.int .u64 n)) X { x with v:=n}:=set_block h _
theorem InsAt.setM (h:InsAt w X x) (n:Int):InsAt (w.setCell ⟨X,5,none⟩ (.int .i64 n)) X { x with m:=n}:=set_block h _
theorem InsAt.setW (h:InsAt w X x) (n:Int):InsAt (w.setCell ⟨X,6,none⟩ (.int .i64 n)) X { x with w:=n}:=set_block h _
end
theorem keeps_set (w:World) (X k:Nat) (u:Value):Keeps (fun i=>i=X) w (w.setCell ⟨X,k,none⟩ u):=(Keeps.refl (fun i=>i=X) w).setCell (p:=⟨X,k,none⟩) rfl u
def InsOut (w:World) (X:Nat) (y:InsL) (e:Ending) (w':World):Prop:=e= .returned .nilIface∧InsAt w' X y∧Keeps (fun i=>i=X) w w'
theorem extract_list (s:ByteArray) (a b:Nat):(s.extract a b).data.toList=(s.data.toList.drop a).take (b - a):=by
 rw[ByteArray.data_extract]
 simp[Array.toList_extract,List.extract_eq_take_drop]
set_option maxRecDepth 100000 in
theorem mark_any (X:Nat) (x y:InsL) (s:ByteArray) (n:Int) (w:World) (hx:InsAt w X x) (h:markL x s.data.toList=some y) (hs:s.size≤1000000):
  Calls Tryz.prog 220 #[.pointer (some ⟨X,0,none⟩), .string s, .int .i64 n] w (InsOut w X y):=by
 obtain ⟨t,ht⟩: ∃t,t=s.extract 1 s.size:=⟨_,rfl⟩
 have hsI:(s.size:Int)≤1000000:=by omega
 have h1:1≤s.size:=by
  rcases Nat.eq_zero_or_pos s.size with h0|h0
  ·have:s.data.toList= []:=List.eq_nil_of_length_eq_zero (by rw[len_list];exact h0)
   rw[this] at h;cases h
  ·exact h0
 have h1I:(1:Int)≤(s.size:Int):=by omega
 have htl:t.data.toList=s.data.toList.drop 1:=by rw[ht,extract_list,List.take_of_length_le (by rw[List.length_drop,len_list];exact Nat.le_refl _)]
 have htz:t.size=s.size - 1:=by rw[←len_list t,htl,List.length_drop,len_list]
 obtain ⟨c,hc⟩: ∃c,s.data.toList=c::t.data.toList:=by
  rw[htl]
  cases hl:s.data.toList with
  |nil=>rw[←len_list,hl] at h1;simp at h1
  |cons c l=>exact ⟨c,rfl⟩
 rw[hc] at h
 obtain ⟨u,hu⟩: ∃u,u=t.extract 0 (t.size - 2):=⟨_,rfl⟩
 have hul:u.data.toList=t.data.toList.take (t.data.toList.length - 2):=by rw[hu,extract_list,List.drop_zero,len_list,Nat.sub_zero]
 have htI:(t.size:Int)≤1000000:=by omega
 have H1:=Lib.hid (hasSuffix_any t ⟨#[61,48]⟩)
 have H2:=Lib.hid (hasSuffix_any t ⟨#[62,48]⟩)
 have e1:([61,48]:Str)=(⟨#[61,48]⟩:ByteArray).data.toList:=rfl
 have e2:([62,48]:Str)=(⟨#[62,48]⟩:ByteArray).data.toList:=rfl
 obtain ⟨o0,o1,o2,o3,o4,o5,o6,of⟩:=hx.cell
 have hlt:=hx.lt
 have HT:=Lib.hid ht
 have htb:t.size≤9223372036854775807:=by omega
 have HTb:=Lib.hid htb
 have hsuf: ∀(q:Str),q.length=2→Lib.hasSuffix t.data.toList q=true→2≤t.size:=by
  intro q hq hh
  have:q<:+t.data.toList:=List.isSuffixOf_iff_suffix.1 hh
  have:=this.length_le
  rw[hq,len_list] at this
  exact this
 by_cases c1:Lib.hasSuffix t.data.toList [61,48]=true
 ·have hm: ∃v,numL u.data.toList=some v∧1≤v∧v≤99∧y={ x with w:=1,m:=v}:=by
   simp only[markL] at h
   rw[show endsWith t.data.toList [61,48]=true from c1,if_pos rfl] at h
   rw[←hul] at h
   exact m67
  obtain ⟨v,hv,hv1,hv2,rfl⟩:=hm
  have h2I:(2:Int)≤(t.size:Int):=by have:=hsuf _ rfl c1;omega
  have HC1:=Lib.hid c1
  have HNum:=Lib.hid (number_any u n v hv)
  have HU:=Lib.hid hu
  have K1:=hx.setW 1
  have HF:=Lib.hid (K1.setM v)
  have HK:Hid (Keeps (fun i=>i=X) w ((w.setCell ⟨X,6,none⟩ (.int .i64 1)).setCell ⟨X,5,none⟩ (.int .i64 v))):=Lib.hid ((keeps_set w X 6 _).trans (keeps_set _ X 5 _) (fun _ h=>Or.inl h))
  have d1:decide (v<1)=false:=decide_eq_false (by omega)
  have d2:decide (99<v)=false:=decide_eq_false (by omega)
  clear hx h hs h1 ht htl htz hc hul hu c1 hv hsuf htb K1 e1 e2
  go_enter Tryz.func220,Tryz.ntmps220
  go_wp2_with fail
  rw[←HT.out]
  refine (H1.out _ HTb.out).mono ?_
  rintro e w' ⟨rfl,rfl⟩
  rw[show Lib.hasSuffix t.data.toList (⟨#[61,48]⟩:ByteArray).data.toList=true from HC1.out]
  exact m122
 ·have c1f:Lib.hasSuffix t.data.toList [61,48]=false:=by simpa using c1
  by_cases c2:Lib.hasSuffix t.data.toList [62,48]=true
  ·have hm: ∃v,numL u.data.toList=some v∧1≤v∧v≤99∧y={ x with w:=2,m:=v}:=by
    simp only[markL] at h
    rw[show endsWith t.data.toList [61,48]=false from c1f,show endsWith t.data.toList [62,48]=true from c2,if_neg (by decide),if_pos rfl] at h
    rw[←hul] at h
    exact m67
   obtain ⟨v,hv,hv1,hv2,rfl⟩:=hm
   have h2I:(2:Int)≤(t.size:Int):=by have:=hsuf _ rfl c2;omega
   have HC1:=Lib.hid c1f
   have HC2:=Lib.hid c2
   have HNum:=Lib.hid (number_any u n v hv)
   have HU:=Lib.hid hu
   have K1:=hx.setW 2
   have HF:=Lib.hid (K1.setM v)
   have HK:Hid (Keeps (fun i=>i=X) w ((w.setCell ⟨X,6,none⟩ (.int .i64 2)).setCell ⟨X,5,none⟩ (.int .i64 v))):=Lib.hid ((keeps_set w X 6 _).trans (keeps_set _ X 5 _) (fun _ h=>Or.inl h))
   have d1:decide (v<1)=false:=decide_eq_false (by omega)
   have d2:decide (99<v)=false:=decide_eq_false (by omega)
   clear hx h hs h1 ht htl htz hc hul hu c1 c1f c2 hv hsuf htb K1 e1 e2
   go_enter Tryz.func220,Tryz.ntmps220
   go_wp2_with fail
   rw[←HT.out]
   refine (H1.out _ HTb.out).mono ?_
   rintro e w' ⟨rfl,rfl⟩
   rw[show Lib.hasSuffix t.data.toList (⟨#[61,48]⟩:ByteArray).data.toList=false from HC1.out]
   go_wp2_with fail
   refine (H2.out _ HTb.out).mono ?_
   rintro e w' ⟨rfl,rfl⟩
   rw[show Lib.hasSuffix t.data.toList (⟨#[62,48]⟩:ByteArray).data.toList=true from HC2.out]
   exact m122
  ·have c2f:Lib.hasSuffix t.data.toList [62,48]=false:=by simpa using c2
   have hm: ∃v,numL t.data.toList=some v∧1≤v∧v≤99∧y={ x with m:=v}:=by
    simp only[markL] at h
    rw[show endsWith t.data.toList [61,48]=false from c1f,show endsWith t.data.toList [62,48]=false from c2f,if_neg (by decide),if_neg (by decide)] at h
    exact m67
   obtain ⟨v,hv,hv1,hv2,rfl⟩:=hm
   have HC1:=Lib.hid c1f
   have HC2:=Lib.hid c2f
   have HNum:=Lib.hid (number_any t n v hv)
   have HF:=Lib.hid (hx.setM v)
   have HK:Hid (Keeps (fun i=>i=X) w (w.setCell ⟨X,5,none⟩ (.int .i64 v))):=Lib.hid (keeps_set w X 5 _)
   have d1:decide (v<1)=false:=decide_eq_false (by omega)
   have d2:decide (99<v)=false:=decide_eq_false (by omega)
   clear hx h hs h1 ht htl htz hc hul hu c1 c1f c2 c2f hv hsuf htb e1 e2
   go_enter Tryz.func220,Tryz.ntmps220
   go_wp2_with fail
   rw[←HT.out]
   refine (H1.out _ HTb.out).mono ?_
   rintro e w' ⟨rfl,rfl⟩
   rw[show Lib.hasSuffix t.data.toList (⟨#[61,48]⟩:ByteArray).data.toList=false from HC1.out]
   go_wp2_with fail
   refine (H2.out _ HTb.out).mono ?_
   rintro e w' ⟨rfl,rfl⟩
   rw[show Lib.hasSuffix t.data.toList (⟨#[62,48]⟩:ByteArray).data.toList=false from HC2.out]
   go_wp2_with fail
   refine (HNum.out _).mono ?_
   rintro e w2 ⟨rfl,rfl⟩
   go_wp2
   go_ret
   exact ⟨rfl,HF.out,HK.out⟩
end Go.Proofs.YtaangaogmnlljaaGreatDoor.Asm
namespace Go.Proofs.YtaangaogmnlljaaGreatDoor.Asm
open Go.RowKit
theorem plus_none: ∀{l:Str},splitPlus l=none→Lib.indexByte l 43= -1
 |[],_=>rfl
 |c::l,h=>by
  unfold splitPlus at h
  split at h
  ·cases h
  ·rename_i hc
   have h2:splitPlus l=none:=by simpa using h
   have:=plus_none h2
   have hb:(c==43)=false:=by simpa using hc
   simp[Lib.indexByte,hb,this]
theorem plus_some: ∀{l p q:Str},splitPlus l=some (p,q)→Lib.indexByte l 43=p.length∧l=p++43::q
 |[],p,q,h=>by cases h
 |c::l,p,q,h=>by
  unfold splitPlus at h
  split at h
  ·rename_i hc
   injection h with h
   injection h with h1 h2
   subst h1 h2 hc
   exact ⟨by simp[Lib.indexByte],rfl⟩
  ·rename_i hc
   have hb:(c==43)=false:=by simpa using hc
   cases hs:splitPlus l with
   |none=>rw[hs] at h;cases h
   |some pq=>
    obtain ⟨p',q'⟩:=pq
    rw[hs] at h
    simp only[Option.map_some,Option.some.injEq,Prod.mk.injEq] at h
    obtain ⟨h1,h2⟩:=h
    subst h1 h2
    obtain ⟨i1,i2⟩:=plus_some hs
    refine ⟨?_,by rw[i2];rfl⟩
    have hne:((p'.length:Int)== -1)=false:=by rw[beq_eq_false_iff_ne];omega
    simp[Lib.indexByte,hb,i1]
set_option maxRecDepth 100000 in
theorem cellOf_any (X:Nat) (x y:InsL) (s:ByteArray) (n:Int) (w:World) (hx:InsAt w X x) (h:cellL x s.data.toList=some y) (hs:s.size≤1000000):
  Calls Tryz.prog 278 #[.pointer (some ⟨X,0,none⟩), .string s, .int .i64 n] w (InsOut w X y):=by
 have hin: ∃T,innerL s.data.toList=some T:=by
  unfold cellL at h
  cases hi:innerL s.data.toList with
  |none=>rw[hi] at h;cases h
  |some T=>exact ⟨T,rfl⟩
 obtain ⟨T,hT⟩:=hin
 have hc:2≤s.size∧s.data.toList.head?=some 91∧s.data.toList.getLast?=some 93∧T=(s.data.toList.drop 1).dropLast:=by
  unfold innerL at hT
  split at hT
  ·rename_i hh
   exact ⟨by rw[←len_list];exact hh.1,hh.2.1,hh.2.2,(Option.some.inj hT).symm⟩
  ·cases hT
 obtain ⟨h2,hh,hl,rfl⟩:=hc
 have h0s:0<s.size:=by omega
 have h1s:s.size - 1<s.size:=by omega
 have b0:(((s[0]'h0s).toNat:Int) !=91)=false:=by
  rw[head_list s h0s] at hh
  rw[bne_eq_false_iff_eq];exact (eq_byte _ 91).2 (Option.some.inj hh)
 have b1:(((s[s.size - 1]'h1s).toNat:Int) !=93)=false:=by
  rw[List.getLast?_eq_getElem?,len_list,at_list s _ h1s] at hl
  rw[bne_eq_false_iff_eq];exact (eq_byte _ 93).2 (Option.some.inj hl)
 obtain ⟨t,ht⟩: ∃t,t=s.extract 1 (s.size - 1):=⟨_,rfl⟩
 have htl:t.data.toList=(s.data.toList.drop 1).dropLast:=by
  rw[ht,extract_list,List.dropLast_eq_take,List.length_drop,len_list]
 have htz:t.size=s.size - 2:=by rw[←len_list t,htl,List.length_dropLast,List.length_drop,len_list];omega
 have hsI:(s.size:Int)≤1000000:=by omega
 have h2I:(2:Int)≤(s.size:Int):=by omega
 have htb:t.size≤9223372036854775807:=by omega
 unfold cellL at h
 rw[hT] at h
 rw[←htl] at h
 dsimp only at h
 obtain ⟨o0,o1,o2,o3,o4,o5,o6,of⟩:=hx.cell
 have hlt:=hx.lt
 have HReg:=Lib.hid (register_any t w htb)
 have HT:=Lib.hid ht
 have htI:(t.size:Int)≤1000000:=by omega
 have HTb:=Lib.hid htb
 cases hr:regL t.data.toList with
 |some r=>
  rw[hr] at h
  obtain rfl:=Option.some.inj h
  have HF:=Lib.hid (hx.setB r)
  have HK:=Lib.hid (keeps_set w X 2 (.int .i64 r))
  have HR:=Lib.hid hr
  clear h hr hx hT hh hl ht htl htz htb hs h2
  go_enter Tryz.func278,Tryz.ntmps278
  go_wp2_with fail
  rw[←HT.out]
  refine HReg.out.mono ?_
  rintro e w' ⟨m,rfl,hm,rfl⟩
  obtain rfl:=hm r HR.out
  clear hm
  rw[HR.out]
  simp only[Option.isSome_some]
  go_wp2
  go_ret
  exact ⟨rfl,HF.out,HK.out⟩
 |none=>
  rw[hr] at h
  dsimp only at h
  have HR:=Lib.hid hr
  cases hp:splitPlus t.data.toList with
  |none=>
   rw[hp] at h
   dsimp only at h
   obtain ⟨v,hv,rfl⟩:=Option.map_eq_some_iff.1 h
   have HF:=Lib.hid ((hx.setB (-1)).setV v)
   have HK:=Lib.hid ((keeps_set w X 2 (.int .i64 (-1))).trans (keeps_set _ X 4 (.int .u64 v)) (fun _ h=>Or.inl h))
   have HIx:Hid (Lib.indexByte t.data.toList (43:Int).toNat.toUInt8= -1):=Lib.hid (plus_none hp)
   have HNum:=Lib.hid (number_any t n v hv)
   clear h hr hx hT hh hl ht htl htz htb hs h2 hp hv
   go_enter Tryz.func278,Tryz.ntmps278
   go_wp2_with fail
   rw[←HT.out]
   refine HReg.out.mono ?_
   rintro e w' ⟨m,rfl,hm,rfl⟩
   clear hm
   rw[HR.out]
   simp only[Option.isSome_none]
   go_wp2_with fail
   refine (indexByte_any t 43 _).mono ?_
   rintro e w2 ⟨rfl,hw2⟩
   subst hw2
   rw[HIx.out]
   go_wp2_with fail
   refine (HNum.out _).mono ?_
   rintro e w3 ⟨rfl,rfl⟩
   go_wp2
   go_ret
   exact ⟨rfl,HF.out,HK.out⟩
  |some pq=>
   obtain ⟨p,q⟩:=pq
   rw[hp] at h
   dsimp only at h
   obtain ⟨hix,htpq⟩:=plus_some hp
   have hrv: ∃r v,regL p=some r∧numL q=some v∧y={ x with b:=r,v:=v}:=by
    cases hrp:regL p with
    |none=>rw[hrp] at h;cases h
    |some r=>
     cases hvq:numL q with
     |none=>rw[hrp,hvq] at h;cases h
     |some v=>rw[hrp,hvq] at h;exact ⟨r,v,rfl,rfl,(Option.some.inj h).symm⟩
   obtain ⟨r,v,hrp,hvq,rfl⟩:=hrv
   obtain ⟨k,hk⟩: ∃k,k=p.length:=⟨_,rfl⟩
   have htz2:t.size=k+1+q.length:=by rw[←len_list t,htpq,List.length_append,List.length_cons,hk];omega
   obtain ⟨P,hP⟩: ∃P,P=t.extract 0 k:=⟨_,rfl⟩
   obtain ⟨Q,hQ⟩: ∃Q,Q=t.extract (k+1) t.size:=⟨_,rfl⟩
   have hPl:P.data.toList=p:=by rw[hP,extract_list,htpq,hk];simp
   have hQl:Q.data.toList=q:=by
    rw[hQ,extract_list,htpq,hk,htz2,hk]
    rw[show p++43::q=(p++ [43])++q by simp,List.drop_left' (by simp),List.take_of_length_le (by omega)]
   have hPz:P.size=k:=by rw[←len_list P,hPl,hk]
   have HF:=Lib.hid (((hx.setB (-1)).setB r).setV v)
   have HK:=Lib.hid (((keeps_set w X 2 (.int .i64 (-1))).trans (keeps_set _ X 2 (.int .i64 r)) (fun _ h=>Or.inl h)).trans (keeps_set _ X 4 (.int .u64 v)) (fun _ h=>Or.inl h))
   have HIx:Hid (Lib.indexByte t.data.toList (43:Int).toNat.toUInt8=(k:Int)):=Lib.hid (by rw[hk];exact hix)
   have HNum:=Lib.hid (number_any Q n v (by rw[hQl];exact hvq))
   have HRp:Hid (regL P.data.toList=some r):=Lib.hid (by rw[hPl];exact hrp)
   have HRegP:=Lib.hid (fun w=>register_any P w (by omega))
   have HP:=Lib.hid hP
   have HQ:=Lib.hid hQ
   have hk1:(k:Int)+1≤(t.size:Int):=by omega
   have hk2:k+1≤t.size:=by omega
   clear h hr hx hT hh hl ht htl htz htb hs h2 hp hvq hrp hk hP hQ hPl hQl hPz hix htpq htz2
   go_enter Tryz.func278,Tryz.ntmps278
   go_wp2_with fail
   rw[←HT.out]
   refine HReg.out.mono ?_
   rintro e w' ⟨m,rfl,hm,rfl⟩
   clear hm
   rw[HR.out]
   simp only[Option.isSome_none]
   go_wp2_with fail
   refine (indexByte_any t 43 _).mono ?_
   rintro e w2 ⟨rfl,hw2⟩
   subst hw2
   rw[HIx.out]
   go_wp2_with fail
   rw[←HP.out]
   refine (HRegP.out _).mono ?_
   rintro e w3 ⟨m2,rfl,hm2,rfl⟩
   obtain rfl:=hm2 r HRp.out
   clear hm2
   rw[HRp.out]
   simp only[Option.isSome_some]
   go_wp2_with fail
   rw[←HQ.out]
   refine (HNum.out _).mono ?_
   rintro e w3 ⟨rfl,rfl⟩
   go_wp2
   go_ret
   exact ⟨rfl,HF.out,HK.out⟩
end Go.Proofs.YtaangaogmnlljaaGreatDoor.Asm
namespace Go.Proofs.YtaangaogmnlljaaGreatDoor.Asm
open Go.RowKit
def strV (l:Str):Value:= .string ⟨l.toArray⟩
theorem infoStr:(Tryz.prog.info? 9).map (fun i=>(i.zero,i.size,i.bytes))=some (some (.string ⟨#[]⟩),1,16):=by kernel_rfl
theorem extract_str (s:ByteArray) (a b:Nat):Value.string (s.extract a b)=strV ((s.data.toList.drop a).take (b - a)):=by
 unfold strV
 rw[←extract_list]
theorem own_shape {w:World} {base:Nat} {e:TypeId} {size n:Nat} {v:Value} {xs:List Value} (h:w.ownsRow base e size v n xs): ∃A c,v= .slice A n c:=by
 rcases h.2 with ⟨rfl,rfl⟩ |⟨g,cap,cur,rfl,_⟩
 ·exact ⟨_,_,rfl⟩
 ·exact ⟨_,_,rfl⟩
theorem row_base {w:World} {b b':Nat} {e:TypeId} {size n:Nat} {v:Value} {xs:List Value} (h:w.ownsRow b e size v n xs) (hb:b'≤b):w.ownsRow b' e size v n xs:=by
 obtain ⟨h1,h2|⟨g,cap,cur,rfl,hg,r⟩⟩:=h
 ·exact ⟨h1,Or.inl h2⟩
 ·exact ⟨h1,Or.inr ⟨g,cap,cur,rfl,Nat.le_trans hb hg,r⟩⟩
def StrRow (w:World) (B:Nat) (v:Value) (D:List Str):Prop:=w.ownsRow B 9 1 v D.length (D.map strV)
def WordsTo (l:Str) (i at_:Nat) (D:List Str):Prop:=
 at_≤i∧(i≤l.length→wordsL l=D++wordsAux ((l.drop at_).take (i - at_)) (l.drop i))∧(l.length<i→wordsL l=D)∧D.length≤i
theorem words_start (l:Str):WordsTo l 0 0 []:=⟨Nat.le_refl _,fun _=>by simp[wordsL],fun h=>by omega,Nat.le_refl _⟩
theorem words_char {l:Str} {i at_:Nat} {D:List Str} (h:WordsTo l i at_ D) (hi:i<l.length) (hc:l[i]≠32):WordsTo l (i+1) at_ D:=by
 obtain ⟨h1,h2,h3,h4⟩:=h
 refine ⟨by omega,fun _=>?_,fun h=>by omega,by omega⟩
 rw[h2 (by omega),List.drop_eq_getElem_cons hi,wordsAux,if_neg hc]
 congr 2
 rw[show i+1 - at_=(i - at_)+1 by omega,List.take_add_one,List.getElem?_drop,show at_+(i - at_)=i by omega,List.getElem?_eq_getElem hi]
 rfl
theorem cur_nil {l:Str} {i at_:Nat} (hi:i≤l.length) (h1:at_≤i):(l.drop at_).take (i - at_)= []↔i=at_:=by
 constructor
 ·intro h
  have:=congrArg List.length h
  rw[List.length_take,List.length_drop] at this
  simp at this
  omega
 ·rintro rfl;simp
theorem words_cut {l:Str} {i at_:Nat} {D:List Str} (h:WordsTo l i at_ D) (hi:i≤l.length) (hc: ∀(h:i<l.length),l[i]=32):WordsTo l (i+1) (i+1) (if at_<i then D++ [(l.drop at_).take (i - at_)] else D):=by
 obtain ⟨h1,h2,h3,h4⟩:=h
 have hn:=cur_nil hi h1
 have hlen:(if at_<i then D++ [(l.drop at_).take (i - at_)] else D).length≤i+1:=by
  split
  ·simp;omega
  ·omega
 by_cases hlt:i<l.length
 ·refine ⟨Nat.le_refl _,fun _=>?_,fun h=>by omega,hlen⟩
  rw[h2 hi,List.drop_eq_getElem_cons hlt,wordsAux,if_pos (hc hlt)]
  by_cases ha:at_<i
  ·rw[if_neg (fun e=>by have:=hn.1 e;omega),if_pos ha]
   simp
  ·rw[if_pos (hn.2 (by omega)),if_neg ha]
   simp
 ·refine ⟨Nat.le_refl _,fun h=>by omega,fun _=>?_,hlen⟩
  rw[h2 hi,show l.drop i= [] from List.drop_of_length_le (by omega),wordsAux]
  by_cases ha:at_<i
  ·rw[if_neg (fun e=>by have:=hn.1 e;omega),if_pos ha]
  ·rw[if_pos (hn.2 (by omega)),if_neg ha,List.append_nil]
theorem no_semi {l:Str} (h: ∀c∈l,c≠59):Lib.indexByte l 59= -1:=by
 induction l with
 |nil=>rfl
 |cons c l ih=>
  have hb:(c==59)=false:=by simpa using h c List.mem_cons_self
  simp[Lib.indexByte,hb,ih (fun x hx=>h x (List.mem_cons_of_mem _ hx))]
def WordsOut (w:World) (l:Str) (e:Ending) (w':World):Prop:= ∃v,e= .returned v∧StrRow w' w.heap.size v (wordsL l)∧Below w.heap.size w w'
set_option maxRecDepth 100000 in
theorem words_any (s:ByteArray) (w:World) (hs:s.size≤100000) (hsemi: ∀c∈s.data.toList,c≠59):Calls Tryz.prog 215 #[.string s] w (WordsOut w s.data.toList):=by
 have hsI:(s.size:Int)≤100000:=by omega
 have HIx:Hid (Lib.indexByte s.data.toList (59:Int).toNat.toUInt8= -1):=Lib.hid (no_semi hsemi)
 obtain ⟨i0,hi0,hz0,hs0,hb0⟩:=info_parts infoStr
 have HS:=Lib.hid hs
 clear hs hsemi
 go_enter Tryz.func215,Tryz.ntmps215
 go_wp2_with fail
 refine (indexByte_any s 59 _).mono ?_
 rintro e w2 ⟨rfl,hw2⟩
 subst hw2
 rw[HIx.out]
 go_wp2_with fail
 go_loopw [4,5,6] (fun lv av iv wr=> ∃(i at_:Nat) (D:List Str),i≤s.size+1∧at_≤i∧av= .int .i64 at_∧iv= .int .i64 i∧Hid (WordsTo s.data.toList i at_ D)∧Hid (StrRow wr w2.heap.size lv D)∧Hid (Below w2.heap.size w2 wr)) (fun _ _ iv _=>s.size+1 - (intOf iv).toNat)
 case atStart=>exact ⟨0,0,[],by omega,by omega,rfl,rfl,Lib.hid (words_start _),Lib.hid (World.ownsRow_nil _ _ _ _),Lib.hid (Below.refl _ _)⟩
 case round=>
  obtain ⟨i,at_,D,hi,hai,rfl,rfl,HW,HR,HB⟩:=hrel
  have hiI:(i:Int)≤(s.size:Int)+1:=by omega
  have haI:(at_:Int)≤(i:Int):=by omega
  obtain ⟨A,c,hv⟩:=own_shape HR.out
  subst hv
  have hDl:D.length≤i:=HW.out.2.2.2
  by_cases hle:i≤s.size
  case neg=>
   have hd:decide ((i:Int)≤(s.size:Int))=false:=decide_eq_false (by omega)
   have hd2:decide (i≤s.size)=false:=decide_eq_false hle
   have HFin:Hid (wordsL s.data.toList=D):=Lib.hid (HW.out.2.2.1 (by rw[len_list];omega))
   clear hle
   go_wp2
   go_ret
   exact ⟨_,rfl,by rw[HFin.out];exact HR.out,HB.out⟩
  have hleI:(i:Int)≤(s.size:Int):=by omega
  have hd2:decide (i≤s.size)=true:=decide_eq_true hle
  by_cases hch: ∃h:i<s.size,s[i]≠32
  ·obtain ⟨hlt,hne⟩:=hch
   have hltI:(i:Int)<(s.size:Int):=by omega
   have hb:((s[i].toNat:Int) !=32)=true:=by rw[bne_iff_ne];intro e;exact hne ((eq_byte _ 32).1 e)
   have HNx:Hid (WordsTo s.data.toList (i+1) at_ D):=Lib.hid (words_char HW.out (by rw[len_list];exact hlt) hne)
   clear hne
   go_wp2
   go_roundw
   case rel=>exact ⟨i+1,at_,D,by omega,by omega,rfl,by go_num,HNx,HR,HB⟩
   case measure=>simp[intOf];omega
  ·have HCut:=Lib.hid (words_cut HW.out (by rw[len_list];exact hle) (fun h=>by
    have h2:i<s.size:=by rw[len_list] at h;exact h
    exact Classical.byContradiction fun hne=>hch ⟨h2,hne⟩))
   have hex:decide (i<s.size)=false∨(∃h:i<s.size,decide (i<s.size)=true∧((s[i].toNat:Int) !=32)=false):=by
    by_cases h:i<s.size
    ·refine Or.inr ⟨h,decide_eq_true h,?_⟩
     rw[bne_eq_false_iff_eq]
     exact (eq_byte _ 32).2 (Classical.byContradiction fun hne=>hch ⟨h,hne⟩)
    ·exact Or.inl (decide_eq_false h)
   clear hch
   by_cases ha:at_<i
   ·rw[if_pos ha] at HCut
    have haI2:(at_:Int)<(i:Int):=by omega
    have hdl:D.length+1≤200000:=by have:=HS.out;omega
    have haN:at_≤i:=by omega
    have HR1:Hid ((wr.alloc (.cells #[.string (s.extract at_ i)] 9)).ownsRow w2.heap.size 9 1 (.slice A D.length c) D.length (D.map strV)):=Lib.hid (HR.out.alloc _)
    have HN1:Hid (∀(j:Nat) (u:Value),[Value.string (s.extract at_ i)][j]?=some u→(wr.alloc (.cells #[.string (s.extract at_ i)] 9)).cell? ((⟨wr.heap.size,0,none⟩:Addr).add j)=some u):=Lib.hid (fun j u hu=>by
     rw[Addr.add_lit,Nat.zero_add]
     exact (World.cell?_alloc_at _ _ _ _ rfl).trans (by simpa using hu))
    have HO1:Hid (∀u∈ [Value.string (s.extract at_ i)],u.oneCell'=true):=Lib.hid (fun u hu=>by
     rw[List.mem_singleton] at hu;subst hu;rfl)
    have HM1:=Lib.hid (show D.length+1≤maxLen by unfold maxLen;omega)
    have HM2:=Lib.hid (show (D.length+1)*16≤140737488355328 by omega)
    have HM3:=Lib.hid (show w2.heap.size≤(wr.alloc (.cells #[.string (s.extract at_ i)] 9)).heap.size by have:=HB.out.size;simp;omega)
    have HE:=Lib.hid (extract_str s at_ i)
    have HBa:=Lib.hid (HB.out.alloc HB.out.size (.cells #[.string (s.extract at_ i)] 9))
    have HFin:Hid (∀v' w',w'.ownsRow w2.heap.size 9 1 v' (D.length+1) (D.map strV++ [Value.string (s.extract at_ i)])→StrRow w' w2.heap.size v' (D++ [(s.data.toList.drop at_).take (i - at_)])):=Lib.hid (fun v' w' h=>by
     unfold StrRow
     rw[List.length_append,List.map_append,List.map_singleton,←HE.out]
     exact h)
    have HFin2:Hid (∀w',(wr.alloc (.cells #[.string (s.extract at_ i)] 9)).grownBy w' (Value.slice A D.length c).ownBlock→Below w2.heap.size w2 w'):=Lib.hid (fun w' h=>HBa.out.grown h HM3.out (fun k e=>(HR1.out.lt k e).1))
    clear hDl hdl
    rcases hex with t1|⟨hlt,t1,t2⟩
    all_goals
     go_wp2_with (at_builtin;refine wpList_append_own _ rfl _ _ 88 rfl w2.heap.size 9 i0 _ 1 16 Tryz.underlying88 hi0 hz0 hs0 hb0 rfl (by decide) _ _ _ rfl HR1.out ⟨wr.heap.size,0,none⟩ 1 1 [.string (s.extract at_ i)] rfl rfl HN1.out HO1.out HM1.out HM2.out HM3.out ?_;intro v' w3 hown hgrow hnew;obtain ⟨A',c',rfl⟩:=own_shape hown;have HR3:=Lib.hid (HFin.out _ _ hown);have HB3:=Lib.hid (HFin2.out _ hgrow);clear hown hgrow hnew)
     go_roundw
     case rel=>exact ⟨i+1,i+1,_,by omega,by omega,by go_num,by go_num,HCut,HR3,HB3⟩
     case measure=>simp[intOf];omega
   ·obtain rfl:at_=i:=by omega
    rw[if_neg (by omega)] at HCut
    rcases hex with t1|⟨hlt,t1,t2⟩
    all_goals
     go_wp2
     go_roundw
     case rel=>exact ⟨at_+1,at_+1,D,by omega,by omega,by go_num,by go_num,HCut,HR,HB⟩
     case measure=>simp[intOf];omega
end Go.Proofs.YtaangaogmnlljaaGreatDoor.Asm
namespace Go.Proofs.YtaangaogmnlljaaGreatDoor.Asm
open Go.RowKit Go.Maps
def insC (x:InsL):List Value:= [.int .i64 x.op, .int .i64 x.a, .int .i64 x.b, .int .i64 x.c, .int .u64 x.v, .int .i64 x.m, .int .i64 x.w]
def codeC (l:List InsL):List Value:=l.flatMap insC
def labelsC (l:List (Str×Nat)):List Value:=l.flatMap fun p=> [strV p.1, .int .i64 p.2]
def linesC (l:List Nat):List Value:=l.map fun i:Nat=> .int .i64 (i:Int)
def wantsC (l:List (Nat×Nat×Str)):List Value:=l.flatMap fun p=> [.int .i64 p.1, .int .i64 p.2.1,strV p.2.2]
theorem ownsRow_of_block {base:Nat} {e:TypeId} {size:Nat} {v:Value} {n:Nat} {xs:List Value} {w w':World} (h:w.ownsRow base e size v n xs) (hb: ∀k,v.ownBlock=some k→w'.heap[k]?=w.heap[k]?):w'.ownsRow base e size v n xs:=by
 exact m112
theorem row_block {w:World} {rb:Nat} {v:Value} {e:TypeId} {size n:Nat} {xs:List Value} {g:Nat} (h:w.ownsRow rb e size v n xs) (hv:v.ownBlock=some g): ∃cur,w.heap[g]?=some (.cells cur e (0,0)):=by
 obtain ⟨_,⟨rfl,_⟩ |⟨g',cap,cur,rfl,_,hh,_⟩⟩:=h
 ·cases hv
 ·cases hv;exact ⟨cur,hh⟩
def HMapS (w:World) (mb:Nat) (f:Str→Option Nat) (N:Nat):Prop:=
 ∃(D:DataW Unit) (n:Nat),w.ownsMap Tryz.prog 9 (plainElem Tryz.prog 3) mb n D∧n≤N∧ ∀k:Str,Maps.has D (.string k)=(f k).isSome∧ ∀j,f k=some j→D.atKey (.string k) (.lit (.int .i64 0))= .lit (.int .i64 (j:Int))
theorem ownsMap_of_block {H:Type} {P:Program} {k:TypeId} {R:Value→Option (DataW H×List MemPlace)} {b n:Nat} {D:DataW H} {w w':World} (h:w.ownsMap P k R b n D) (e:w'.heap[b]?=w.heap[b]?):w'.ownsMap P k R b n D:=by
 obtain ⟨es,c,h1,h2,h3,h4⟩:=h
 exact ⟨es,c,e.trans h1,h2,h3,h4⟩
theorem HMapS.lt {w:World} {mb:Nat} {f:Str→Option Nat} {N:Nat} (h:HMapS w mb f N):mb<w.heap.size:=by obtain ⟨_,_,h,_⟩:=h;exact h.lt
theorem HMapS.of_block {w w':World} {mb:Nat} {f:Str→Option Nat} {N:Nat} (h:HMapS w mb f N) (e:w'.heap[mb]?=w.heap[mb]?):HMapS w' mb f N:=by
 obtain ⟨D,n,h1,h2,h3⟩:=h
 exact ⟨D,n,ownsMap_of_block h1 e,h2,h3⟩
theorem HMapS.isMap {w:World} {mb:Nat} {f:Str→Option Nat} {N:Nat} (h:HMapS w mb f N): ∃es c,w.heap[mb]?=some (.map es c):=by
 obtain ⟨_,_,⟨es,c,h,_⟩,_⟩:=h
 exact ⟨es,c,h⟩
def idxL (labels:List (Str×Nat)) (t:Str):Option Nat:=labels.findIdx? fun p=>p.1==t
structure Rd (w:World) (R mb rb:Nat) (vc vl vn vw:Value) (st:St):Prop where
 obj:w.heap[R]?=some (.cells #[vc,vl,vn, .map (some mb),vw] 313 (0,0))
 code:w.ownsRow rb 68 7 vc st.code.length (codeC st.code)
 labels:w.ownsRow rb 319 2 vl st.labels.length (labelsC st.labels)
 lines:w.ownsRow rb 3 1 vn st.lines.length (linesC st.lines)
 wants:w.ownsRow rb 317 3 vw st.wants.length (wantsC st.wants)
 map:HMapS w mb (idxL st.labels) st.labels.length
def OfR (R mb:Nat) (vc vl vn vw:Value) (k:Nat):Prop:=k=R∨k=mb∨vc.ownBlock=some k∨vl.ownBlock=some k∨vn.ownBlock=some k∨vw.ownBlock=some k
section
variable {w w':World} {R mb rb:Nat} {vc vl vn vw:Value} {st:St}
theorem Rd.lt (h:Rd w R mb rb vc vl vn vw st):R<w.heap.size:=(Array.getElem?_eq_some_iff.1 h.obj).1
theorem Rd.cell (h:Rd w R mb rb vc vl vn vw st):w.cell? ⟨R,0,none⟩=some vc∧w.cell? ⟨R,1,none⟩=some vl∧w.cell? ⟨R,2,none⟩=some vn∧w.cell? ⟨R,3,none⟩=some (.map (some mb))∧w.cell? ⟨R,4,none⟩=some vw∧ ∀o,w.frozen? ⟨R,o,none⟩=false:=by
 exact m90
theorem Rd.of_lt (h:Rd w R mb rb vc vl vn vw st) {k:Nat} (hk:OfR R mb vc vl vn vw k):k<w.heap.size:=by
 rcases hk with rfl|rfl|hk|hk|hk|hk
 ·exact h.lt
 ·exact h.map.lt
 ·exact (h.code.lt k hk).2
 ·exact (h.labels.lt k hk).2
 ·exact (h.lines.lt k hk).2
 ·exact (h.wants.lt k hk).2
theorem Rd.of_blocks (h:Rd w R mb rb vc vl vn vw st) (e: ∀k,OfR R mb vc vl vn vw k→w'.heap[k]?=w.heap[k]?):Rd w' R mb rb vc vl vn vw st:=
 ⟨(e R (Or.inl rfl)).trans h.obj,ownsRow_of_block h.code fun k hk=>e k (Or.inr (Or.inr (Or.inl hk))),ownsRow_of_block h.labels fun k hk=>e k (Or.inr (Or.inr (Or.inr (Or.inl hk)))),ownsRow_of_block h.lines fun k hk=>e k (Or.inr (Or.inr (Or.inr (Or.inr (Or.inl hk))))),ownsRow_of_block h.wants fun k hk=>e k (Or.inr (Or.inr (Or.inr (Or.inr (Or.inr hk))))),h.map.of_block (e mb (Or.inr (Or.inl rfl)))⟩
theorem Rd.keeps {X:Nat→Prop} (h:Rd w R mb rb vc vl vn vw st) (k:Keeps X w w') (hx: ∀i,OfR R mb vc vl vn vw i→ ¬X i):Rd w' R mb rb vc vl vn vw st:=
 h.of_blocks fun i hi=>k.block i (h.of_lt hi) (hx i hi)
theorem Rd.below (h:Rd w R mb rb vc vl vn vw st) (k:Below w.heap.size w w'):Rd w' R mb rb vc vl vn vw st:=h.of_blocks fun i hi=>k.block i (h.of_lt hi)
def tagOf (w:World) (k:Nat):Nat:=
 match w.heap[k]? with
 |some (.cells _ t _)=>t+2
 |some (.map _ _)=>1
 |_=>0
theorem tag_same {w w':World} {k:Nat} (h:w'.heap[k]?=w.heap[k]?):tagOf w' k=tagOf w k:=by unfold tagOf;rw[h]
theorem tag_cells {w:World} {k:Nat} {c:Array Value} {t:TypeId} {f:Nat×Nat} (h:w.heap[k]?=some (.cells c t f)):tagOf w k=t+2:=by unfold tagOf;rw[h]
theorem tag_row {w:World} {rb:Nat} {v:Value} {e:TypeId} {size n:Nat} {xs:List Value} {g:Nat} (h:w.ownsRow rb e size v n xs) (hv:v.ownBlock=some g):tagOf w g=e+2:=by
 obtain ⟨c,hc⟩:=row_block h hv
 exact tag_cells hc
theorem Rd.tagR (h:Rd w R mb rb vc vl vn vw st):tagOf w R=313+2:=tag_cells h.obj
theorem Rd.tagM (h:Rd w R mb rb vc vl vn vw st):tagOf w mb=1:=by
 obtain ⟨es,c,hm⟩:=h.map.isMap
 unfold tagOf;rw[hm]
theorem ne_of_tag {w:World} {k k':Nat} {a b:Nat} (h:tagOf w k=a) (h':tagOf w k'=b) (hne:a≠b):k≠k':=fun e=>hne (by rw[←h,←h',e])
theorem own_ne {w:World} {rb:Nat} {v:Value} {e:TypeId} {size n:Nat} {xs:List Value} {k b:Nat} (h:w.ownsRow rb e size v n xs) (h':tagOf w k=b) (hne:b≠e+2):some k≠v.ownBlock:=fun he=>ne_of_tag h' (tag_row h he.symm) hne rfl
theorem a3.q70 {P:Prop} (h:P:=by
 exact ⟨set_block (hR2.trans h.obj) _,(ownsRow_of_block hr fun k hk=>Below.heap_setCell _ _ _ _ (hnR k hk)),(ownsRow_of_block (ownsRow_of_block h.labels fun k hk=>hg.block k (h.labels.lt k hk).2 (own_ne h.code (tag_row h.labels hk) (by decide))) fun k hk=>Below.heap_setCell _ _ _ _ (ne_of_tag (tag_row h.labels hk) h.tagR (by decide))),(ownsRow_of_block (ownsRow_of_block h.lines fun k hk=>hg.block k (h.lines.lt k hk).2 (own_ne h.code (tag_row h.lines hk) (by decide))) fun k hk=>Below.heap_setCell _ _ _ _ (ne_of_tag (tag_row h.lines hk) h.tagR (by decide))),(ownsRow_of_block (ownsRow_of_block h.wants fun k hk=>hg.block k (h.wants.lt k hk).2 (own_ne h.code (tag_row h.wants hk) (by decide))) fun k hk=>Below.heap_setCell _ _ _ _ (ne_of_tag (tag_row h.wants hk) h.tagR (by decide))),(h.map.of_block (hg.block mb h.map.lt (own_ne h.code h.tagM (by decide)))).of_block (Below.heap_setCell _ _ _ _ (ne_of_tag h.tagM h.tagR (by decide)))⟩):P:=h
open a3 in
theorem Rd.add_code (h:Rd w R mb rb vc vl vn vw st) {w2:World} {v':Value} (x:InsL) (hg:w.grownBy w2 vc.ownBlock) (hr:w2.ownsRow rb 68 7 v' (st.code++ [x]).length (codeC (st.code++ [x]))):Rd (w2.setCell ⟨R,0,none⟩ v') R mb rb v' vl vn vw { st with code:=st.code++ [x]}:=by
 have hR2:w2.heap[R]?=w.heap[R]?:=hg.block R h.lt (own_ne h.code h.tagR (by decide))
 exact m70
theorem Rd.add_labels {w2:World} {v':Value} (hobj:w.heap[R]?=some (.cells #[vc,vl,vn, .map (some mb),vw] 313 (0,0))) (hcode:w.ownsRow rb 68 7 vc st.code.length (codeC st.code)) (hlab:w.ownsRow rb 319 2 vl st.labels.length (labelsC st.labels)) (hlin:w.ownsRow rb 3 1 vn st.lines.length (linesC st.lines)) (hwan:w.ownsRow rb 317 3 vw st.wants.length (wantsC st.wants)) (x:Str×Nat) (hmap:HMapS w mb (idxL (st.labels++ [x])) (st.labels++ [x]).length)
  (hg:w.grownBy w2 vl.ownBlock) (hr:w2.ownsRow rb 319 2 v' (st.labels++ [x]).length (labelsC (st.labels++ [x]))):Rd (w2.setCell ⟨R,1,none⟩ v') R mb rb vc v' vn vw { st with labels:=st.labels++ [x]}:=by
 have tR:tagOf w R=313+2:=tag_cells hobj
 have tM:tagOf w mb=1:=by
  obtain ⟨es,c,hm⟩:=hmap.isMap
  unfold tagOf;rw[hm]
 have hlt:R<w.heap.size:=(Array.getElem?_eq_some_iff.1 hobj).1
 have hR2:w2.heap[R]?=w.heap[R]?:=hg.block R hlt (own_ne hlab tR (by decide))
 have hnR: ∀k,v'.ownBlock=some k→k≠R:=fun k hk=>ne_of_tag (tag_row hr hk) ((tag_same hR2).trans tR) (by decide)
 refine ⟨set_block (hR2.trans hobj) _,?_,?_,?_,?_,?_⟩
 ·exact ownsRow_of_block (ownsRow_of_block hcode fun k hk=>hg.block k (hcode.lt k hk).2 (own_ne hlab (tag_row hcode hk) (by decide))) fun k hk=>Below.heap_setCell _ _ _ _ (ne_of_tag (tag_row hcode hk) tR (by decide))
 ·exact ownsRow_of_block hr fun k hk=>Below.heap_setCell _ _ _ _ (hnR k hk)
 ·exact ownsRow_of_block (ownsRow_of_block hlin fun k hk=>hg.block k (hlin.lt k hk).2 (own_ne hlab (tag_row hlin hk) (by decide))) fun k hk=>Below.heap_setCell _ _ _ _ (ne_of_tag (tag_row hlin hk) tR (by decide))
 ·exact ownsRow_of_block (ownsRow_of_block hwan fun k hk=>hg.block k (hwan.lt k hk).2 (own_ne hlab (tag_row hwan hk) (by decide))) fun k hk=>Below.heap_setCell _ _ _ _ (ne_of_tag (tag_row hwan hk) tR (by decide))
 ·exact (hmap.of_block (hg.block mb hmap.lt (own_ne hlab tM (by decide)))).of_block (Below.heap_setCell _ _ _ _ (ne_of_tag tM tR (by decide)))
theorem a4.q70 {P:Prop} (h:P:=by
 exact ⟨set_block (hR2.trans h.obj) _,(ownsRow_of_block (ownsRow_of_block h.code fun k hk=>hg.block k (h.code.lt k hk).2 (own_ne h.lines (tag_row h.code hk) (by decide))) fun k hk=>Below.heap_setCell _ _ _ _ (ne_of_tag (tag_row h.code hk) h.tagR (by decide))),(ownsRow_of_block (ownsRow_of_block h.labels fun k hk=>hg.block k (h.labels.lt k hk).2 (own_ne h.lines (tag_row h.labels hk) (by decide))) fun k hk=>Below.heap_setCell _ _ _ _ (ne_of_tag (tag_row h.labels hk) h.tagR (by decide))),(ownsRow_of_block hr fun k hk=>Below.heap_setCell _ _ _ _ (hnR k hk)),(ownsRow_of_block (ownsRow_of_block h.wants fun k hk=>hg.block k (h.wants.lt k hk).2 (own_ne h.lines (tag_row h.wants hk) (by decide))) fun k hk=>Below.heap_setCell _ _ _ _ (ne_of_tag (tag_row h.wants hk) h.tagR (by decide))),(h.map.of_block (hg.block mb h.map.lt (own_ne h.lines h.tagM (by decide)))).of_block (Below.heap_setCell _ _ _ _ (ne_of_tag h.tagM h.tagR (by decide)))⟩):P:=h
open a4 in
theorem Rd.add_lines (h:Rd w R mb rb vc vl vn vw st) {w2:World} {v':Value} (x:Nat) (hg:w.grownBy w2 vn.ownBlock) (hr:w2.ownsRow rb 3 1 v' (st.lines++ [x]).length (linesC (st.lines++ [x]))):Rd (w2.setCell ⟨R,2,none⟩ v') R mb rb vc vl v' vw { st with lines:=st.lines++ [x]}:=by
 have hR2:w2.heap[R]?=w.heap[R]?:=hg.block R h.lt (own_ne h.lines h.tagR (by decide))
 exact m70
theorem a5.q70 {P:Prop} (h:P:=by
 exact ⟨set_block (hR2.trans h.obj) _,(ownsRow_of_block (ownsRow_of_block h.code fun k hk=>hg.block k (h.code.lt k hk).2 (own_ne h.wants (tag_row h.code hk) (by decide))) fun k hk=>Below.heap_setCell _ _ _ _ (ne_of_tag (tag_row h.code hk) h.tagR (by decide))),(ownsRow_of_block (ownsRow_of_block h.labels fun k hk=>hg.block k (h.labels.lt k hk).2 (own_ne h.wants (tag_row h.labels hk) (by decide))) fun k hk=>Below.heap_setCell _ _ _ _ (ne_of_tag (tag_row h.labels hk) h.tagR (by decide))),(ownsRow_of_block (ownsRow_of_block h.lines fun k hk=>hg.block k (h.lines.lt k hk).2 (own_ne h.wants (tag_row h.lines hk) (by decide))) fun k hk=>Below.heap_setCell _ _ _ _ (ne_of_tag (tag_row h.lines hk) h.tagR (by decide))),(ownsRow_of_block hr fun k hk=>Below.heap_setCell _ _ _ _ (hnR k hk)),(h.map.of_block (hg.block mb h.map.lt (own_ne h.wants h.tagM (by decide)))).of_block (Below.heap_setCell _ _ _ _ (ne_of_tag h.tagM h.tagR (by decide)))⟩):P:=h
open a5 in
theorem Rd.add_wants (h:Rd w R mb rb vc vl vn vw st) {w2:World} {v':Value} (x:Nat×Nat×Str) (hg:w.grownBy w2 vw.ownBlock) (hr:w2.ownsRow rb 317 3 v' (st.wants++ [x]).length (wantsC (st.wants++ [x]))):Rd (w2.setCell ⟨R,4,none⟩ v') R mb rb vc vl vn v' { st with wants:=st.wants++ [x]}:=by
 have hR2:w2.heap[R]?=w.heap[R]?:=hg.block R h.lt (own_ne h.wants h.tagR (by decide))
 exact m70
end
end Go.Proofs.YtaangaogmnlljaaGreatDoor.Asm
namespace Go.Proofs.YtaangaogmnlljaaGreatDoor.Asm
open Go.RowKit Go.Maps
def OpdOut (w:World) (R mb rb:Nat) (vc vl vn vw:Value) (st:St) (X:Nat) (y:InsL) (o:Option Str) (i:Nat) (e:Ending) (w':World):Prop:=
 e= .returned .nilIface∧InsAt w' X y∧ ∃vw',Rd w' R mb rb vc vl vn vw' { st with wants:=st.wants++o.toList.map (fun t=>(st.code.length,i,t))}∧Keeps (fun k=>k=X∨OfR R mb vc vl vn vw k) w w'∧ ∀k,vw'.ownBlock=some k→vw.ownBlock=some k∨w.heap.size≤k
section
variable {w w':World} {R mb rb:Nat} {vc vl vn vw:Value} {st:St} {X:Nat} {y:InsL} {i:Nat}
theorem opd_plain (h:Rd w R mb rb vc vl vn vw st) (hX: ¬OfR R mb vc vl vn vw X) (hy:InsAt w' X y) (hk:Keeps (fun i=>i=X) w w'):OpdOut w R mb rb vc vl vn vw st X y none i (.returned .nilIface) w':=by
 exact m116
end
theorem a6.q55 {P:Prop} (h:P:=by
 have HFin:=Lib.hid (opd_plain (i:=i) hR hX (hx.setA r) (keeps_set w X 1 _))
 exact m16):P:=h
open a6 in
set_option maxRecDepth 100000 in
theorem operand_regA {w:World} {R mb rb:Nat} {vc vl vn vw:Value} {st:St} {X:Nat} {x:InsL} (hR:Rd w R mb rb vc vl vn vw st) (hX: ¬OfR R mb vc vl vn vw X) (hx:InsAt w X x) (s:ByteArray) (hs:s.size≤100000) (i:Nat) (r:Int) (hr:regL s.data.toList=some r):
  Calls Tryz.prog 219 #[.pointer (some ⟨R,0,none⟩), .pointer (some ⟨X,0,none⟩), .int .i64 1, .string s, .int .i64 i] w (OpdOut w R mb rb vc vl vn vw st X { x with a:=r} none i):=by
 exact m55
theorem a7.q55 {P:Prop} (h:P:=by
 have HFin:=Lib.hid (opd_plain (i:=i) hR hX (hx.setB r) (keeps_set w X 2 _))
 exact m16):P:=h
open a7 in
set_option maxRecDepth 100000 in
theorem operand_regB {w:World} {R mb rb:Nat} {vc vl vn vw:Value} {st:St} {X:Nat} {x:InsL} (hR:Rd w R mb rb vc vl vn vw st) (hX: ¬OfR R mb vc vl vn vw X) (hx:InsAt w X x) (s:ByteArray) (hs:s.size≤100000) (i:Nat) (r:Int) (hr:regL s.data.toList=some r):
  Calls Tryz.prog 219 #[.pointer (some ⟨R,0,none⟩), .pointer (some ⟨X,0,none⟩), .int .i64 2, .string s, .int .i64 i] w (OpdOut w R mb rb vc vl vn vw st X { x with b:=r} none i):=by
 exact m55
theorem a8.q55 {P:Prop} (h:P:=by
 have HFin:=Lib.hid (opd_plain (i:=i) hR hX (hx.setC r) (keeps_set w X 3 _))
 exact m16):P:=h
open a8 in
set_option maxRecDepth 100000 in
theorem operand_regC {w:World} {R mb rb:Nat} {vc vl vn vw:Value} {st:St} {X:Nat} {x:InsL} (hR:Rd w R mb rb vc vl vn vw st) (hX: ¬OfR R mb vc vl vn vw X) (hx:InsAt w X x) (s:ByteArray) (hs:s.size≤100000) (i:Nat) (r:Int) (hr:regL s.data.toList=some r):
  Calls Tryz.prog 219 #[.pointer (some ⟨R,0,none⟩), .pointer (some ⟨X,0,none⟩), .int .i64 3, .string s, .int .i64 i] w (OpdOut w R mb rb vc vl vn vw st X { x with c:=r} none i):=by
 exact m55
theorem a9.q55 {P:Prop} (h:P:=by
 have HFin:=Lib.hid (opd_plain (i:=i) hR hX (hx.setC r) (keeps_set w X 3 _))
 exact m16):P:=h
open a9 in
set_option maxRecDepth 100000 in
theorem operand_orCr {w:World} {R mb rb:Nat} {vc vl vn vw:Value} {st:St} {X:Nat} {x:InsL} (hR:Rd w R mb rb vc vl vn vw st) (hX: ¬OfR R mb vc vl vn vw X) (hx:InsAt w X x) (s:ByteArray) (hs:s.size≤100000) (i:Nat) (r:Int) (hr:regL s.data.toList=some r):
  Calls Tryz.prog 219 #[.pointer (some ⟨R,0,none⟩), .pointer (some ⟨X,0,none⟩), .int .i64 4, .string s, .int .i64 i] w (OpdOut w R mb rb vc vl vn vw st X { x with c:=r} none i):=by
 exact m55
theorem a10.q55 {P:Prop} (h:P:=by
 have HFin:=Lib.hid (opd_plain (i:=i) hR hX (hx.setB r) (keeps_set w X 2 _))
 exact m16):P:=h
open a10 in
set_option maxRecDepth 100000 in
theorem operand_orBr {w:World} {R mb rb:Nat} {vc vl vn vw:Value} {st:St} {X:Nat} {x:InsL} (hR:Rd w R mb rb vc vl vn vw st) (hX: ¬OfR R mb vc vl vn vw X) (hx:InsAt w X x) (s:ByteArray) (hs:s.size≤100000) (i:Nat) (r:Int) (hr:regL s.data.toList=some r):
  Calls Tryz.prog 219 #[.pointer (some ⟨R,0,none⟩), .pointer (some ⟨X,0,none⟩), .int .i64 5, .string s, .int .i64 i] w (OpdOut w R mb rb vc vl vn vw st X { x with b:=r} none i):=by
 exact m55
theorem a11.q27 {P:Prop} (h:P:=by
 clear hm
 rw[HR.out]
 simp only[Option.isSome_none]
 exact m64):P:=h
theorem a11.q55 {P:Prop} (h:P:=by
 have HFin:=Lib.hid (opd_plain (i:=i) hR hX ((hx.setC (-1)).setV v) ((keeps_set w X 3 (.int .i64 (-1))).trans (keeps_set _ X 4 (.int .u64 v)) (fun _ h=>Or.inl h)))
 have HR:=Lib.hid hr
 have HNum:=Lib.hid (number_any s (i:Int) v hv)
 clear hR hX hx hr hs hv
 exact m27):P:=h
open a11 in
set_option maxRecDepth 100000 in
theorem operand_orCn {w:World} {R mb rb:Nat} {vc vl vn vw:Value} {st:St} {X:Nat} {x:InsL} (hR:Rd w R mb rb vc vl vn vw st) (hX: ¬OfR R mb vc vl vn vw X) (hx:InsAt w X x) (s:ByteArray) (hs:s.size≤100000) (i:Nat) (v:Int) (hr:regL s.data.toList=none) (hv:numL s.data.toList=some v):
  Calls Tryz.prog 219 #[.pointer (some ⟨R,0,none⟩), .pointer (some ⟨X,0,none⟩), .int .i64 4, .string s, .int .i64 i] w (OpdOut w R mb rb vc vl vn vw st X { x with c:= -1,v:=v} none i):=by
 exact m55
theorem a12.q27 {P:Prop} (h:P:=by
 clear hm
 rw[HR.out]
 simp only[Option.isSome_none]
 exact m64):P:=h
theorem a12.q55 {P:Prop} (h:P:=by
 have HFin:=Lib.hid (opd_plain (i:=i) hR hX ((hx.setB (-1)).setV v) ((keeps_set w X 2 (.int .i64 (-1))).trans (keeps_set _ X 4 (.int .u64 v)) (fun _ h=>Or.inl h)))
 have HR:=Lib.hid hr
 have HNum:=Lib.hid (number_any s (i:Int) v hv)
 clear hR hX hx hr hs hv
 exact m27):P:=h
open a12 in
set_option maxRecDepth 100000 in
theorem operand_orBn {w:World} {R mb rb:Nat} {vc vl vn vw:Value} {st:St} {X:Nat} {x:InsL} (hR:Rd w R mb rb vc vl vn vw st) (hX: ¬OfR R mb vc vl vn vw X) (hx:InsAt w X x) (s:ByteArray) (hs:s.size≤100000) (i:Nat) (v:Int) (hr:regL s.data.toList=none) (hv:numL s.data.toList=some v):
  Calls Tryz.prog 219 #[.pointer (some ⟨R,0,none⟩), .pointer (some ⟨X,0,none⟩), .int .i64 5, .string s, .int .i64 i] w (OpdOut w R mb rb vc vl vn vw st X { x with b:= -1,v:=v} none i):=by
 exact m55
theorem a13.q27 {P:Prop} (h:P:=by
 clear hm
 generalize (regL s.data.toList).isSome=b
 exact m64):P:=h
theorem a13.q55 {P:Prop} (h:P:=by
 have HFin:=Lib.hid (opd_plain (i:=i) hR hX (hx.setV v) (keeps_set w X 4 _))
 have HNum:=Lib.hid (number_any s (i:Int) v hv)
 clear hR hX hx hs hv
 exact m27):P:=h
open a13 in
set_option maxRecDepth 100000 in
theorem operand_num {w:World} {R mb rb:Nat} {vc vl vn vw:Value} {st:St} {X:Nat} {x:InsL} (hR:Rd w R mb rb vc vl vn vw st) (hX: ¬OfR R mb vc vl vn vw X) (hx:InsAt w X x) (s:ByteArray) (hs:s.size≤100000) (i:Nat) (v:Int) (hv:numL s.data.toList=some v):
  Calls Tryz.prog 219 #[.pointer (some ⟨R,0,none⟩), .pointer (some ⟨X,0,none⟩), .int .i64 7, .string s, .int .i64 i] w (OpdOut w R mb rb vc vl vn vw st X { x with v:=v} none i):=by
 exact m55
theorem a14.q27 {P:Prop} (h:P:=by
 clear hm
 generalize (regL s.data.toList).isSome=b
 go_wp2_with fail
 refine HCell.out.mono ?_
 rintro e w' ⟨rfl,h1,h2⟩
 have HF:=Lib.hid (HFin.out w' h1 h2)
 clear h1 h2
 go_wp2
 go_ret
 exact HF.out):P:=h
theorem a14.q55 {P:Prop} (h:P:=by
 have HCell:=Lib.hid (cellOf_any X x y s (i:Int) w hx hy (by omega))
 have HFin:Hid (∀w',InsAt w' X y→Keeps (fun i=>i=X) w w'→OpdOut w R mb rb vc vl vn vw st X y none i (.returned .nilIface) w'):=Lib.hid (fun w' h1 h2=>opd_plain hR hX h1 h2)
 clear hR hX hx hs hy
 exact m27):P:=h
open a14 in
set_option maxRecDepth 100000 in
theorem operand_cell {w:World} {R mb rb:Nat} {vc vl vn vw:Value} {st:St} {X:Nat} {x:InsL} (hR:Rd w R mb rb vc vl vn vw st) (hX: ¬OfR R mb vc vl vn vw X) (hx:InsAt w X x) (s:ByteArray) (hs:s.size≤100000) (i:Nat) (y:InsL) (hy:cellL x s.data.toList=some y):
  Calls Tryz.prog 219 #[.pointer (some ⟨R,0,none⟩), .pointer (some ⟨X,0,none⟩), .int .i64 6, .string s, .int .i64 i] w (OpdOut w R mb rb vc vl vn vw st X y none i):=by
 exact m55
theorem a15.q27 {P:Prop} (h:P:=by
 clear hm
 generalize (regL s.data.toList).isSome=b
 go_wp2_with fail
 refine HNam.out.mono ?_
 rintro e w' ⟨rfl,rfl⟩
 rw[HNo.out]
 exact m64):P:=h
theorem a15.q55 {P:Prop} (h:P:=by
 have HFin:=Lib.hid (opd_plain (i:=i) hR hX (hx.setV v) (keeps_set w X 4 _))
 have HNum:=Lib.hid (number_any s (i:Int) v hv)
 have HNam:=Lib.hid (named_any s w (by omega))
 have HNo:=Lib.hid hn
 clear hR hX hx hs hv hn
 exact m27):P:=h
open a15 in
set_option maxRecDepth 100000 in
theorem operand_bothn {w:World} {R mb rb:Nat} {vc vl vn vw:Value} {st:St} {X:Nat} {x:InsL} (hR:Rd w R mb rb vc vl vn vw st) (hX: ¬OfR R mb vc vl vn vw X) (hx:InsAt w X x) (s:ByteArray) (hs:s.size≤100000) (i:Nat) (v:Int) (hn:namedL s.data.toList=false) (hv:numL s.data.toList=some v):
  Calls Tryz.prog 219 #[.pointer (some ⟨R,0,none⟩), .pointer (some ⟨X,0,none⟩), .int .i64 9, .string s, .int .i64 i] w (OpdOut w R mb rb vc vl vn vw st X { x with v:=v} none i):=by
 exact m55
end Go.Proofs.YtaangaogmnlljaaGreatDoor.Asm
