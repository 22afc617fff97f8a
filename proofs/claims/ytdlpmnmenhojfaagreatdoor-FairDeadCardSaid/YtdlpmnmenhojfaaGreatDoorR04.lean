/- Part 4 of what the proof stands on: AsmA. -/
import Derived.Test.YtdlpmnmenhojfaaGreatDoorProg
import Derived.Test.YtdlpmnmenhojfaaGreatDoorR01
set_option linter.unusedVariables false
set_option maxHeartbeats 40000000
set_option maxRecDepth 100000
variable {zP:Prop}
namespace Go.Proofs.YtdlpmnmenhojfaaGreatDoor
open Go.IntKind renaming i64->Z,u64->J
open Go.Value renaming int->E,pointer->Y,slice->Sl
open Option renaming none->O,some->V
open Go.Obj renaming cells->Ce
open Go.Ending renaming returned->Rt
open Go.Proofs.Tryz renaming prog->Tp
namespace Asm
open Go.RowKit
theorem zc0 (c:Int) (h1:48≤c) (h2:c≤57) (w:World):
  Calls Tp 301 #[.int .u8 c,E J 10] w fun e w'=>e=Rt (.tuple #[E J (c - 48), .bool true])∧w=w':=by
 go_enter Tryz.func301,Tryz.ntmps301;go_wp2;go_ret2;refine ⟨?_,rfl⟩;simp;omega
theorem Bj (l:Str) (c:UInt8):vZ (l++ [c])=vZ l*10+(c.toNat - 48):=by simp[vZ]
theorem zmC (l:Str) (a:Nat):a≤l.foldl (fun v c=>v*10+(c.toNat - 48)) a:=by
 induction l generalizing a with
 |nil=>exact Nat.le_refl _
 |cons c l ih=>exact Nat.le_trans Y1 (ih (a*10+(c.toNat - 48)))
theorem zqN (l:Str) (k:Nat):vZ (l.take k)≤vZ l:=by
 have:vZ l=(l.drop k).foldl (fun v c=>v*10+(c.toNat - 48)) (vZ (l.take k)):=by
  unfold vZ;rw[←List.foldl_append,List.take_append_drop]
 rw[this];exact zmC _ _
theorem BF (s:ByteArray) (k:Nat) (h:k<s.size):s.data.toList.take (k+1)=s.data.toList.take k++ [s[k]]:=by
 rw[List.take_succ_eq_append_getElem Y17];rfl
theorem a3.Q37 (h:zP:=by
 by_cases h2:2≤s.size
 ·have iN:(2:Int)≤(s.size:Int):=Y1;have d1:=hdig 1 Y1;have hx:((s[1].toNat:Int)==120)=false:=beq_eq_false_iff_ne.2 Y1;clear h hd hl hv hlt h0 hdig;go_enter Tryz.func262,Tryz.ntmps262;go_upto_region 2 with fail;go_cut [23] (fun cc wx=>cc= .bool false∧w=wx);case first=>
   go_wp2_with fail;all_goals
    go_meet
    exact ⟨rfl,rfl⟩
  case rest=>
   obtain ⟨rfl,rfl⟩:=hcut;go_wp2;go_loop [7,8] (fun vv iv=> ∃k:Nat,k≤s.size∧iv=E Z k∧vv=E J (vZ (s.data.toList.take k))) (fun _ iv=>s.size - (intOf iv).toNat);case atStart=>exact ⟨0,by omega,rfl,rfl⟩
   case round=>
    obtain ⟨k,hk,rfl,rfl⟩:=hrel;have dL:(k:Int)≤(s.size:Int):=Y1;by_cases hlt:k<s.size
    ·exact J52
    exact zwv
 ·have iN:(s.size:Int)<2:=Y1;clear h hd hl hv hlt h0 hdig;go_enter Tryz.func262,Tryz.ntmps262;go_wp2;all_goals
   go_loop [7,8] (fun vv iv=> ∃k:Nat,k≤s.size∧iv=E Z k∧vv=E J (vZ (s.data.toList.take k))) (fun _ iv=>s.size - (intOf iv).toNat)
   case atStart=>exact ⟨0,by omega,rfl,rfl⟩
   case round=>
    obtain ⟨k,hk,rfl,rfl⟩:=hrel
    have dL:(k:Int)≤(s.size:Int):=Y1
    by_cases hlt:k<s.size
    ·have aH:(k:Int)<(s.size:Int):=Y1
     have DZ:(k:Int)<20:=Y1
     obtain ⟨d1,d2⟩:=FX.out k hlt
     have hb1:=oP.out (k+1)
     rw[BF s k hlt,Bj] at hb1
     have CF:Hid (vZ (s.data.toList.take (k+1))=vZ (s.data.toList.take k)*10+(s[k].toNat - 48)):=Y0 Y53
     obtain ⟨a,ha⟩: ∃a:Int,a=(vZ (s.data.toList.take k):Int):=⟨_,rfl⟩
     obtain ⟨c,hc⟩: ∃c:Int,c=(s[k].toNat:Int):=⟨_,rfl⟩
     have ha0:0≤a:=Y1
     have hab:a*10+(c - 48)<18446744073709551616:=Y1
     have HA:=Y0 ha
     have HC:=Y0 hc
     rw[←ha]
     have HD:=Y0 (zc0 c Y1 Y1 w)
     have f1:decide ((20:Int)≤(k:Int))=false:=Y8
     have f2:decide ((18446744073709551615 - (c - 48))/10<a)=false:=Y8
     have DC:48≤c:=Y1
     have DF:c≤57:=Y1
     have aD:Hid (a*10+(c - 48)=(vZ (s.data.toList.take (k+1)):Int)):=Y0 Y80
     clear hb1 ha d1 d2
     go_wp2_with fail
     rw[←hc]
     clear hc
     refine HD.out.mono ?_
     rintro e w' ⟨rfl,rfl⟩
     go_wp2
     go_round
     case rel=>first|exact ⟨k+1,by omega,by go_num,by rw[←aD.out]⟩ |((repeat apply Exists.intro);exact ⟨⟨k+1,by omega,by go_num,by rw[←aD.out]⟩,rfl⟩)
     case measure=>simp[intOf];omega
    ·obtain rfl:k=s.size:=Y1
     have aD:Hid ((vZ (s.data.toList.take s.size):Int)=v):=Y0 Y32
     go_wp2
     go_ret2
     first|exact ⟨rfl,rfl⟩ |exact ⟨by rw[←aD.out];rfl,rfl⟩):zP:=h
theorem a3.Q52 (h:zP:=by
 have HD:=Y0 (zc0 c Y1 Y1 w);have f1:decide ((20:Int)≤(k:Int))=false:=Y8;have f2:decide ((18446744073709551615 - (c - 48))/10<a)=false:=Y8;exact J51):zP:=h
open a3 in
theorem zkO (s:ByteArray) (v:Int) (h:kQ s.data.toList=some v) (w:World):
  Calls Tp 262 #[.string s] w fun e w'=>e=Rt (.tuple #[E J v, .nilIface])∧w=w':=by
 exact J37
theorem Vk (s:ByteArray) (n v:Int) (h:kQ s.data.toList=some v) (w:World):
  Calls Tp 207 #[.string s,E Z n] w fun e w'=>e=Rt (.tuple #[E J v, .nilIface])∧w=w':=by
 have H:=Y0 (zkO s v h w);clear h;go_enter Tryz.func207,Tryz.ntmps207;go_wp2_with fail;refine H.out.mono ?_;rintro e w' ⟨rfl,rfl⟩;go_wp2;go_ret2;exact ⟨rfl,rfl⟩
def zqJ (s:Str) (w:World) (e:Ending) (w':World):Prop:= ∃n:Int,e=Rt (.tuple #[E Z n, .bool (Zr s).isSome])∧(∀r,Zr s=some r→n=r)∧w=w'
theorem ZX (c:UInt8):isDigit c=true↔48≤(c.toNat:Int)∧(c.toNat:Int)≤57:=by simp[isDigit];omega
theorem Zx (c d:UInt8):((c.toNat:Int)=(d.toNat:Int))↔c=d:=by rw[←UInt8.toNat_inj];omega
theorem ZY (s:ByteArray) (k:Nat) (h:k<s.size):s.data.toList[k]?=some s[k]:=by
 rw[List.getElem?_eq_getElem Y17];rfl
theorem zL (s:ByteArray):s.data.toList.length=s.size:=Y7
theorem jC {s:Str} {w:World} (n:Int) (h:Zr s=none):zqJ s w (.returned (.tuple #[E Z n, .bool false])) w:=
 ⟨n,by rw[h];rfl,(fun r hr=>by rw[h] at hr;cases hr),rfl⟩
def Gc (s:Str) (k:Nat):Nat:=vZ ((s.drop 1).take (k - 1))
theorem vB (s:ByteArray) (w:World) (hs:s.size≤9223372036854775807):Calls Tp 205 #[.string s] w (zqJ s.data.toList w):=by
 have hsI:(s.size:Int)≤9223372036854775807:=Y1;clear hs;by_cases h1:s.size<2
 ·have hr:Zr s.data.toList=none:=by unfold Zr;rw[if_neg];rw[zL];omega
  have ou:(s.size:Int)<2:=Y1;have HR:=Y0 hr;clear hr;exact J71
 by_cases h2:3<s.size
 ·have hr:Zr s.data.toList=none:=by unfold Zr;rw[if_neg];rw[zL];omega
  have ou:(2:Int)≤(s.size:Int):=Y1;have iN:(3:Int)<(s.size:Int):=Y1;have HR:=Y0 hr;clear hr;exact J71
 have ou:(2:Int)≤(s.size:Int):=Y1;have iN:(s.size:Int)≤3:=Y1;by_cases h3:s[0]=114;case neg=>
  have hr:Zr s.data.toList=none:=by unfold Zr;rw[if_neg];rw[ZY s 0 Y1];intro h;exact h3 (Option.some.inj h.2.1)
  have RG:((s[0].toNat:Int) !=114)=true:=by rw[bne_iff_ne];intro h;exact h3 ((Zx s[0] 114).1 h)
  have HR:=Y0 hr;clear hr h3;exact J71
 have RG:((s[0].toNat:Int) !=114)=false:=by rw[bne_eq_false_iff_eq];exact (Zx s[0] 114).2 h3
 have uy:1<s.size:=Y1;by_cases h4:s.size=3∧s[1]'uy=48
 ·have hr:Zr s.data.toList=none:=by
   unfold Zr;rw[if_neg];rw[ZY s 1 Y1];intro h;exact h.2.2.1 ⟨by rw[zL];exact h4.1,by rw[h4.2]⟩
  have Lc:((s.size:Int)==3)=true:=beq_iff_eq.2 Y1;have xA:(((s[1]'uy).toNat:Int)==48)=true:=beq_iff_eq.2 ((Zx (s[1]'uy) 48).2 h4.2);have HR:=Y0 hr;clear hr h4 h3;exact J71
 have Lc:s.size=2→((s.size:Int)==3)=false:=fun h=>beq_eq_false_iff_ne.2 Y1;have xA:s.size=3→(((s[1]'uy).toNat:Int)==48)=false:=fun h=>beq_eq_false_iff_ne.2 (fun e=>h4 ⟨h,(Zx (s[1]'uy) 48).1 e⟩);have Ep: ∀k (hk:k<s.size),1≤k→isDigit s[k]=false→Zr s.data.toList=none:=by
  intro k hk hk1 hd;unfold Zr;rw[if_neg];intro h;have:=List.all_eq_true.1 h.2.2.2.1 s[k] (List.mem_of_getElem? (i:=k - 1) (by rw[List.getElem?_drop,show 1+(k - 1)=k by omega];exact ZY s k hk));rw[hd] at this;cases this
 have hto: ∀k (hk:k<s.size),1≤k→Gc s.data.toList (k+1)=Gc s.data.toList k*10+(s[k].toNat - 48):=by
  intro k hk hk1;unfold Gc;have e:(s.data.toList.drop 1).take (k+1 - 1)=(s.data.toList.drop 1).take (k - 1)++ [s[k]]:=by
   rw[show k+1 - 1=(k - 1)+1 by omega,List.take_add_one];rw[List.getElem?_drop,show 1+(k - 1)=k by omega,ZY s k hk];rfl
  rw[e,Bj]
 have hall:(∀k (hk:k<s.size),1≤k→isDigit s[k]=true)→(Zr s.data.toList).isSome=decide ((Gc s.data.toList s.size:Int)<32)∧ ∀r,Zr s.data.toList=some r→(Gc s.data.toList s.size:Int)=r:=by
  intro hd;have e:Gc s.data.toList s.size=vZ (s.data.toList.drop 1):=by
   unfold Gc;rw[List.take_of_length_le Y91]
  have ha:(s.data.toList.drop 1).all isDigit=true:=by
   rw[List.all_eq_true];intro x hx;obtain ⟨j,hj,rfl⟩:=List.getElem_of_mem hx;rw[List.getElem_drop];have hj':1+j<s.size:=by rw[List.length_drop,zL] at hj;omega
   exact hd (1+j) hj' Y1
  have hc: ¬(s.data.toList.length=3∧s.data.toList[1]?=some 48):=by
   rw[zL,ZY s 1 Y1];intro h;exact h4 ⟨h.1,Option.some.inj h.2⟩
  rw[e];obtain ⟨x,hx⟩: ∃x,x=vZ (s.data.toList.drop 1):=⟨_,rfl⟩;by_cases hv:vZ (s.data.toList.drop 1)<32
  ·have hr:Zr s.data.toList=V ((vZ (s.data.toList.drop 1):Nat):Int):=by
    unfold Zr;rw[if_pos ⟨by rw[zL];omega,by rw[ZY s 0 Y1,h3],hc,ha,hv⟩]
   rw[hr,←hx];rw[←hx] at hv;exact ⟨(decide_eq_true (show (x:Int)<32 by omega)).symm,fun r h=>Option.some.inj h⟩
  ·have hr:Zr s.data.toList=none:=by
    unfold Zr;rw[if_neg];intro h;exact hv h.2.2.2.2
   rw[hr,←hx];rw[←hx] at hv;exact ⟨(decide_eq_false (show¬(x:Int)<32 by omega)).symm,fun r h=>by cases h⟩
 have hlt: ∀k,k≤s.size→1≤k→(∀j (hj:j<s.size),1≤j→j<k→isDigit s[j]=true)→Gc s.data.toList k≤99∧(k≤2→Gc s.data.toList k≤9):=by
  intro k hk hk1 hd;have e1:Gc s.data.toList 1=0:=by unfold Gc;simp[vZ]
  obtain rfl|rfl|rfl:k=1∨k=2∨k=3:=Y1
  ·rw[e1];omega
  ·have d1:=(ZX _).1 (hd 1 Y1 Y1 Y1);rw[hto 1 Y1 Y1,e1];omega
  ·have d1:=(ZX _).1 (hd 1 Y1 Y1 Y1);have d2:=(ZX _).1 (hd 2 Y1 Y1 Y1);rw[hto 2 Y1 Y1,hto 1 Y1 Y1,e1];omega
 have oP:=Y0 hlt;have aX:=Y0 Ep;have oh:=Y0 hto;have aS:=Y0 hall;have hd1:decide ((s.size:Int)<2)=false:=decide_eq_false Y1;have hd2:decide ((3:Int)<(s.size:Int))=false:=decide_eq_false Y1;by_cases h5:s.size=2
 ·have uz:=Lc h5;have h5I:(s.size:Int)≤2:=Y1;exact J13
 ·have uz:((s.size:Int)==3)=true:=beq_iff_eq.2 Y1;have h4d:=xA Y1;exact J13
theorem zd7 (c:UInt8):zcT c=true↔97≤(c.toNat:Int)∧(c.toNat:Int)≤122:=by simp[zcT];omega
theorem zbR (c:UInt8):isName c=true↔(97≤(c.toNat:Int)∧(c.toNat:Int)≤122)∨(48≤(c.toNat:Int)∧(c.toNat:Int)≤57):=by
 unfold isName;rw[Bool.or_eq_true,zd7,ZX]
theorem Bt (s:ByteArray) (h:0<s.size):s.data.toList.head?=some s[0]:=by
 rw[List.head?_eq_getElem?];exact ZY s 0 h
theorem ze5 (s:ByteArray) (k:Nat) (h:k<s.size):s[k]∈s.data.toList:=List.mem_of_getElem? (ZY s k h)
theorem zqr {s:ByteArray} {p:UInt8→Bool} (h: ∀k (hk:k<s.size),p s[k]=true):s.data.toList.all p=true:=by
 rw[List.all_eq_true];intro x hx;obtain ⟨j,hj,rfl⟩:=List.getElem_of_mem hx;exact h j Y50
theorem a4.Q40 (h:zP:=by
 go_enter Tryz.func138,Tryz.ntmps138;go_wp2;go_loop [3] (fun iv=> ∃k:Nat,k≤s.size∧iv=E Z k∧Hid (∀j (hj:j<s.size),j<k→isName s[j]=true)) (fun iv=>s.size - (intOf iv).toNat);case atStart=>exact ⟨0,by omega,rfl,Y0 (fun j _ h=>by omega)⟩
 case round=>
  obtain ⟨k,hk,rfl,HD⟩:=hrel;have dL:(k:Int)≤(s.size:Int):=Y1;by_cases hlt:k<s.size
  ·have aH:(k:Int)<(s.size:Int):=Y1;by_cases hdg:isName s[k]=true
   ·have cu:Hid (∀j (hj:j<s.size),j<k+1→isName s[j]=true):=Y0 (fun j hj h2=>by
     by_cases e:j=k
     ·subst e;exact hdg
     ·exact HD.out j hj Y1)
    have hor:=(zbR _).1 hdg;clear hdg;rcases hor with ⟨d1,d2⟩ |⟨d1,d2⟩
    ·have c1:decide ((s[k].toNat:Int)<97)=false:=decide_eq_false Y1;have c2:decide ((122:Int)<(s[k].toNat:Int))=false:=decide_eq_false Y1;exact J76
    ·have c1:decide ((s[k].toNat:Int)<97)=true:=decide_eq_true Y1;have c2:decide ((s[k].toNat:Int)<48)=false:=decide_eq_false Y1;have c3:decide ((57:Int)<(s[k].toNat:Int))=false:=decide_eq_false Y1;exact J76
   ·exact zwV
  ·obtain rfl:k=s.size:=Y1
   have hfin:=rE.out (fun j hj=>HD.out j hj hj)
   have HF:=Y0 hfin
   clear hfin
   go_wp2_with fail
   refine oV.out.mono ?_
   rintro e w' ⟨n,rfl,_,rfl⟩
   cases hr:Zr s.data.toList with
   |none=>
    have HR:=Y0 hr;clear hr;simp only[Option.isSome_none];go_wp2;go_ret;exact ⟨by rw[HF.out,HR.out];rfl,rfl⟩
   |some r=>
    have HR:=Y0 hr;clear hr;simp only[Option.isSome_some];go_wp2;go_ret;exact ⟨by rw[HF.out,HR.out];rfl,rfl⟩):zP:=h
theorem a4.zxU (h:zP:=by
 by_cases h3:zcT (s[0]'qK)=true;case neg=>
  exact zxm
 exact J40):zP:=h
theorem a4.zxj (h:zP:=by
 by_cases hlo:((s[0]'qK).toNat:Int)<97
 ·clear hnd;exact J80
 ·have hhi:(122:Int)<((s[0]'qK).toNat:Int):=Y1;clear hnd;exact J80):zP:=h
theorem a4.zwe (h:zP:=by
 by_cases x1:(s[k].toNat:Int)<48
 ·have c1:decide ((s[k].toNat:Int)<97)=true:=decide_eq_true Y1;have c2:decide ((s[k].toNat:Int)<48)=true:=decide_eq_true Y1;clear hnd x1;go_wp2;go_ret;exact ⟨by rw[HR.out];rfl,rfl⟩
 ·have c2:decide ((s[k].toNat:Int)<48)=false:=decide_eq_false Y1;have c3:decide ((57:Int)<(s[k].toNat:Int))=true:=decide_eq_true Y1;by_cases x2:(s[k].toNat:Int)<97
  ·have c1:decide ((s[k].toNat:Int)<97)=true:=decide_eq_true Y1;clear hnd x1 x2;go_wp2;go_ret;exact ⟨by rw[HR.out];rfl,rfl⟩
  ·have c1:decide ((s[k].toNat:Int)<97)=false:=decide_eq_false Y1;have c4:decide ((122:Int)<(s[k].toNat:Int))=true:=decide_eq_true Y1;clear hnd x1 x2;go_wp2;go_ret;exact ⟨by rw[HR.out];rfl,rfl⟩):zP:=h
open a4 in
theorem JZ (s:ByteArray) (w:World) (hs:s.size≤9223372036854775807):Calls Tp 138 #[.string s] w fun e w'=>e=Rt (.bool (ZC s.data.toList))∧w=w':=by
 have oV:=Y0 (vB s w hs);have hsI:(s.size:Int)≤9223372036854775807:=Y1;clear hs;by_cases h1:s.size<1
 ·have hr:ZC s.data.toList=false:=by unfold ZC;rw[decide_eq_false Y21];rfl
  have ou:(s.size:Int)<1:=Y1;rw[hr];clear hr;exact J80
 by_cases h2:16<s.size
 ·have hr:ZC s.data.toList=false:=by unfold ZC;rw[decide_eq_false Y21];rfl
  have ou:(1:Int)≤(s.size:Int):=Y1;have iN:(16:Int)<(s.size:Int):=Y1;rw[hr];clear hr;exact J80
 exact zxa
def jl:Str:=zN.flatMap (· ++ [32])
def zV (m:Nat):Nat:=((zN.take m).flatMap (· ++ [32])).length
theorem Bf (m:Nat) (hm:m<zN.length):jl=(zN.take m).flatMap (· ++ [32])++(zN[m]++32::(zN.drop (m+1)).flatMap (· ++ [32])):=by
 unfold jl;conv=>lhs;rw[←List.take_append_drop m zN]
 rw[List.flatMap_append,List.drop_eq_getElem_cons hm,List.flatMap_cons];simp
theorem zi0 (m:Nat) (hm:m<zN.length):zV (m+1)=zV m+zN[m].length+1:=by
 unfold zV;rw[List.take_succ_eq_append_getElem hm,List.flatMap_append];simp;omega
theorem zoF (m j:Nat) (hm:m<zN.length) (hj:j<zN[m].length):jl[zV m+j]?=V (zN[m][j]):=by
 rw[Bf m hm,List.getElem?_append_right Y69];rw[show zV m+j - ((zN.take m).flatMap (· ++ [32])).length=j by unfold zV;omega];rw[List.getElem?_append_left hj];exact List.getElem?_eq_getElem hj
theorem zlN (m:Nat) (hm:m<zN.length):jl[zV m+zN[m].length]?=some 32:=by
 rw[Bf m hm,List.getElem?_append_right Y69];rw[show zV m+zN[m].length - ((zN.take m).flatMap (· ++ [32])).length=zN[m].length by unfold zV;omega];rw[List.getElem?_append_right (Nat.le_refl _)];simp
theorem zjr (m:Nat) (hm:m<zN.length):(jl.drop (zV m)).take zN[m].length=zN[m]:=by
 rw[Bf m hm,List.drop_append_of_le_length Y69];rw[List.drop_of_length_le Y69,List.nil_append,List.take_left'];rfl
theorem zpF: ∀x∈zN,∀c∈x,c≠32:=jE
theorem zd8:zN.length=58:=jE
theorem Jr:zV 58=227:=jE
theorem ZF (s:ByteArray):s.toList=s.data.toList:=by
 exact ByteArray.toList_eq s
theorem ji (s:Str): ∀(l:List Str) (n:Int) (m:Nat),(∀x∈l.take m,x≠s)→m≤l.length→Gq s l n=Gq s (l.drop m) (n+m)
 |l,n,0,_,_=>by simp
 |[],n,m+1,_,h=>by simp at h
 |x::l,n,m+1,hx,h=>by
  have h1:x≠s:=hx x Y7
  rw[Gq,if_neg h1,List.drop_succ_cons,ji s l (n+1) m (fun y hy=>hx y (by simp[hy])) Y17]
  congr 1
  omega
def VW:ByteArray:=⟨#[115,101,116,32,109,111,118,32,97,100,100,32,115,117,98,32,97,110,100,32,111,114,32,120,111,114,32,115,104,108,32,115,104,114,32,101,113,32,108,116,32,106,109,112,32,106,122,32,106,110,122,32,106,115,114,32,114,101,116,32,108,100,32,115,116,32,115,119,112,32,102,97,100,32,99,97,115,32,99,97,108,108,32,104,115,104,32,113,112,116,32,113,116,107,32,113,109,118,32,113,104,115,32,115,108,112,32,104,110,100,32,112,105,107,32,108,97,121,32,116,97,107,32,105,110,106,32,105,106,116,32,114,117,110,32,112,114,107,32,115,108,102,32,119,114,107,32,119,107,100,32,119,107,110,32,110,111,119,32,100,114,119,32,103,101,116,32,102,114,101,32,111,98,106,32,100,101,108,32,99,107,112,32,116,110,119,32,116,115,116,32,116,104,109,32,116,106,110,32,116,100,116,32,116,101,120,32,116,114,112,32,101,110,100,32,121,108,100,32,99,98,107,32,102,105,110,32]⟩
theorem zcM:VW.data.toList=jl:=jE
theorem zfB:VW.size=227:=jE
theorem zh4 (m:Nat) (hm:m≤58):zV m≤227:=by
 rw[←Jr];unfold zV;refine List.Sublist.length_le ?_;have e:zN.take 58=zN.take m++(zN.drop m).take (58 - m):=by rw[←List.take_add];congr 1;omega
 rw[e,List.flatMap_append];exact List.sublist_append_left _ _
theorem zbB (i:Nat) (h:i<VW.size) (c:UInt8) (hc:jl[i]?=some c):VW[i]=c:=by
 have:=ZY VW i h;rw[zcM,hc] at this;exact (Option.some.inj this).symm
theorem zfc (m:Nat) (hm:m<zN.length):(VW.extract (zV m) (zV m+zN[m].length)).data.toList=zN[m]:=by
 rw[ByteArray.data_extract];simp only[Array.toList_extract,List.extract_eq_take_drop];rw[zcM,Nat.add_sub_cancel_left,zjr m hm]
theorem zuL (s:ByteArray) (w:World):Calls Tp 139 #[.string s] w fun e w'=>e=Rt (E Z (KH s.data.toList))∧w=w':=by
 go_enter Tryz.func139,Tryz.ntmps139;go_wp2;go_loop [3,4,5] (fun av nv iv=> ∃m j:Nat,m≤58∧av=E Z (zV m)∧nv=E Z ((m:Int)+1)∧iv=E Z ((zV m+j:Nat):Int)∧zV m+j≤227∧Hid (∀hm:m<zN.length,j≤zN[m].length)∧Hid (∀x∈zN.take m,x≠s.data.toList)) (fun _ _ iv=>227 - (intOf iv).toNat);case atStart=>exact ⟨0,0,by omega,rfl,rfl,rfl,by decide,Y0 (fun _=>Nat.zero_le _),Y0 (fun x hx=>by simp at hx)⟩
 case round=>
  obtain ⟨m,j,hm,rfl,rfl,rfl,hij,HJ,HX⟩:=hrel;obtain ⟨i,hI⟩: ∃i,i=zV m+j:=⟨_,rfl⟩;rw[←hI] at hij ⊢;have SG:(i:Int)≤227:=Y1;by_cases hlt:m<58
  ·have hl:m<zN.length:=by rw[zd8];exact hlt
   have hj:=HJ.out hl;have hss:=zi0 m hl;have hsl2:=zh4 (m+1) Y1;have hlt2:i<227:=Y1;have hsz:i<VW.size:=by rw[zfB];exact hlt2
   have aH:(i:Int)<227:=Y1;have hsI:(zV m:Int)≤(i:Int):=Y1;have hsN:zV m≤i:=Y1;by_cases hjl:j<zN[m].length
   ·have hb:((VW[i].toNat:Int) !=32)=true:=by
     rw[zbB i hsz _ (by rw[hI];exact zoF m j hl hjl),bne_iff_ne];intro e;exact zpF _ (List.getElem_mem hl) _ (List.getElem_mem hjl) ((Zx _ 32).1 e)
    have cu:Hid (∀hm:m<zN.length,j+1≤zN[m].length):=Y0 (fun _=>hjl);have hi1:zV m+(j+1)≤227:=Y1;have ET:Hid ((i:Int)+1=((zV m+(j+1):Nat):Int)):=Y0 Y1;clear hI hss hsl2 hlt2 hjl;have HB:=Y0 hb;clear hb;go_wp2;all_goals first
     |(exfalso;have hz:((VW[i].toNat:Int) !=32)=false:=by assumption
       rw[HB.out] at hz;cases hz)
     |(go_round
       case rel=>exact ⟨m,j+1,hm,rfl,rfl,by rw[ET.out],hi1,cu,HX⟩
       case measure=>simp[intOf];omega)
   ·obtain rfl:j=zN[m].length:=Y1;have hb:((VW[i].toNat:Int) !=32)=false:=by
     rw[zbB i hsz _ (by rw[hI];exact zlN m hl)];rfl
    have hpart:=zfc m hl;rw[←hI] at hpart;by_cases heq:zN[m]=s.data.toList
    ·have he:((VW.extract (zV m) i).toList==s.toList)=true:=by
      rw[beq_iff_eq,ZF,ZF,hpart];exact heq
     have aD:Hid ((m:Int)+1=KH s.data.toList):=Y0 (by
      unfold KH
      rw[ji s.data.toList zN 1 m HX.out Y1,List.drop_eq_getElem_cons hl,Gq,if_pos heq]
      omega)
     clear hI hss hsl2 hlt2 hjl hpart heq;have HB:=Y0 hb;have HE:=Y0 he;clear hb he;go_wp2;all_goals first
      |(exfalso;have hz:((VW[i].toNat:Int) !=32)=true:=by assumption
        rw[HB.out] at hz;cases hz)
      |(exfalso;have hz:((VW.extract (zV m) i).toList==s.toList)=false:=by assumption
        rw[HE.out] at hz;cases hz)
      |(go_ret
        exact ⟨by rw[←aD.out];rfl,rfl⟩)
    ·have he:((VW.extract (zV m) i).toList==s.toList)=false:=by
      rw[beq_eq_false_iff_ne,ZF,ZF,hpart];exact heq
     have lC:Hid (∀x∈zN.take (m+1),x≠s.data.toList):=Y0 (by
      intro x hx
      rw[List.take_succ_eq_append_getElem hl] at hx
      rcases List.mem_append.1 hx with hx|hx
      ·exact HX.out x hx
      ·rw[List.mem_singleton] at hx;rw[hx];exact heq)
     have ET:Hid ((i:Int)+1=(zV (m+1):Int)):=Y0 (by rw[hss];omega);clear hI hss hlt2 hjl hpart heq;have HB:=Y0 hb;have HE:=Y0 he;clear hb he;go_wp2;all_goals first
      |(exfalso;have hz:((VW[i].toNat:Int) !=32)=true:=by assumption
        rw[HB.out] at hz;cases hz)
      |(exfalso;have hz:((VW.extract (zV m) i).toList==s.toList)=true:=by assumption
        rw[HE.out] at hz;cases hz)
      |(go_round
        case rel=>exact ⟨m+1,0,by omega,by rw[ET.out],by go_num,by rw[ET.out];rfl,hsl2,Y0 (fun _=>Nat.zero_le _),lC⟩
        case measure=>simp[intOf];omega)
  ·obtain rfl:m=58:=Y1;have aD:Hid (KH s.data.toList=0):=Y0 (by
    unfold KH
    rw[ji s.data.toList zN 1 58 HX.out (by rw[zd8];exact Nat.le_refl _)]
    rw[List.drop_of_length_le (by rw[zd8];exact Nat.le_refl _)]
    rfl)
   obtain rfl:j=0:=by rw[Jr] at hI;omega
   obtain rfl:i=227:=by rw[hI,Jr]
   rw[Jr];have hd:decide ((227:Int)<227)=false:=Y2;go_wp2;go_ret;exact ⟨by rw[aD.out];rfl,rfl⟩
theorem zpc (s:ByteArray) (c:Int) (w:World):
  Calls Tp 261 #[.string s, .int .u8 c] w fun e w'=>e=Rt (E Z (Lib.indexByte s.data.toList c.toNat.toUInt8))∧w'=w:=by
 go_enter Tryz.func261,Tryz.ntmps261;go_wp2;rw[run_callFunc_extern Tryz.func300 Y4 Y4 Y4 (e:=Extern.BytealgIndexByte.indexByte) Y4,Lib.run_indexByteString];simp only[Result.andThen];rw[Oper.upon_value];go_wp2;go_ret;exact ⟨rfl,rfl⟩
theorem Gh (s:ByteArray) (c:Int) (w:World):
  Calls Tp 204 #[.string s, .int .u8 c] w fun e w'=>e=Rt (E Z (Lib.indexByte s.data.toList c.toNat.toUInt8))∧w'=w:=by
 go_enter Tryz.func204,Tryz.ntmps204;go_wp2_with (go_at_call 261;refine (zpc _ _ _).mono ?_;rintro e w' ⟨rfl,rfl⟩);go_ret;exact ⟨rfl,rfl⟩
theorem BP (s p:ByteArray) (w:World) (hs:s.size≤9223372036854775807):
  Calls Tp 209 #[.string s, .string p] w fun e w'=>e=Rt (.bool (Lib.hasSuffix s.data.toList p.data.toList))∧w'=w:=by
 rw[←Lib.hasSuffix_raw];have hlo:p.size≤s.size→((s.size:Int) - (p.size:Int)+9223372036854775808)%18446744073709551616 - 9223372036854775808=((s.size - p.size:Nat):Int):=fun _=>by omega
 go_enter Tryz.func209,Tryz.ntmps209;go_wp2
 ·have h:p.size≤s.size:=Y44;go_ret;refine ⟨?_,rfl⟩;show Ending.returned (Value.bool ((s.extract (s.size - p.size) s.size).toList==p.toList))=_;simp[h]
 ·have h: ¬p.size≤s.size:=Y44;go_ret;refine ⟨?_,rfl⟩;show Ending.returned (Value.bool false)=_;simp[h]
structure Keeps (X:Nat→Prop) (w w':World):Prop where
 os:w'.os=w.os
 tape:w'.tape=w.tape
 output:w'.output=w.output
 size:w.heap.size≤w'.heap.size
 block: ∀k,k<w.heap.size→ ¬X k→w'.heap[k]?=w.heap[k]?
theorem Keeps.refl (X:Nat→Prop) (w:World):Keeps X w w:=⟨rfl,rfl,rfl,Nat.le_refl _,fun _ _ _=>rfl⟩
theorem Keeps.trans {X ay:Nat→Prop} {a b c:World} (h:Keeps X a b) (k:Keeps ay b c) (hXY: ∀i,ay i→X i∨a.heap.size≤i):Keeps X a c:=
 ⟨k.os.trans h.os,k.tape.trans h.tape,k.output.trans h.output,Nat.le_trans h.size k.size,fun i hi hx=>(k.block i (Nat.lt_of_lt_of_le hi h.size) (fun hy=>(hXY i hy).elim hx Y1)).trans (h.block i hi hx)⟩
theorem Keeps.zO {X:Nat→Prop} {w w':World} (h:Below w.heap.size w w'):Keeps X w w':=⟨h.os,h.tape,h.output,h.size,fun k hk _=>h.block k hk⟩
theorem Keeps.below {X:Nat→Prop} {B:Nat} {a w w':World} (hb:Below B a w) (h:Keeps X w w') (hB:B≤w.heap.size) (hX: ∀i,X i→B≤i):Below B a w':=
 hb.trans ⟨h.os,h.tape,h.output,h.size,fun k hk=>h.block k Y1 (fun hx=>by have:=hX k hx;omega)⟩
theorem Keeps.mono {X ay:Nat→Prop} {w w':World} (h:Keeps X w w') (hXY: ∀i,X i→ay i):Keeps ay w w':=⟨h.os,h.tape,h.output,h.size,fun k hk hy=>h.block k hk (fun hx=>hy (hXY k hx))⟩
theorem Keeps.alloc {X:Nat→Prop} {a w:World} (h:Keeps X a w) (o:Obj):Keeps X a (w.alloc o):=
 h.trans (Keeps.zO (X:=X) ((Below.refl _ w).alloc (Nat.le_refl _) o)) fun _ hx=>Or.inl hx
theorem Keeps.drew {X:Nat→Prop} {a w:World} (h:Keeps X a w):Keeps X a w.drew:=⟨h.os,h.tape,h.output,h.size,h.block⟩
theorem Keeps.drewN {X:Nat→Prop} {a w:World} (h:Keeps X a w) (q:Nat):Keeps X a (w.drewN q):=⟨h.os,h.tape,h.output,h.size,h.block⟩
theorem Keeps.setCell {X:Nat→Prop} {a w:World} (h:Keeps X a w) {p:Addr} (hp:X p.block) (u:Value):Keeps X a (w.setCell p u):=
 h.trans (ay:=X) ⟨rfl,rfl,rfl,by simp[World.setCell],fun k _ hk=>Below.heap_setCell _ _ _ _ (fun e=>hk (e▸hp))⟩ fun _ hx=>Or.inl hx
theorem Keeps.grown {X:Nat→Prop} {a w w':World} {row:Option Nat} (h:Keeps X a w) (hg:w.grownBy w' row) (hr: ∀k,row=some k→X k):Keeps X a w':=
 h.trans (ay:=X) ⟨hg.os,hg.tape,hg.output,hg.size,fun k hk hx=>hg.block k hk (fun e=>hx (hr k e.symm))⟩ fun _ hx=>Or.inl hx
theorem Keeps.cell {X:Nat→Prop} {w w':World} (h:Keeps X w w') {p:Addr} (hl:p.block<w.heap.size) (hx: ¬X p.block):w'.cell? p=w.cell? p:=World.cell?_of_block (h.block _ hl hx)
theorem zy {w:World} {X k:Nat} {C:Array Value} {t:TypeId} {fr:Nat×Nat} (h:w.heap[X]?=V (.cells C t fr)) (u:Value):(w.setCell ⟨X,k,O⟩ u).heap[X]?=V (.cells (C.setIfInBounds k u) t fr):=by
 simp[Sort.setCell_eq,Sort.mapBlock,Array.getElem?_modify,h,Sort.onCells]
def zS (x:zx):Array Value:=#[E Z x.op,E Z x.a,E Z x.b,E Z x.c,E J x.v,E Z x.m,E Z x.w]
def zT (w:World) (X:Nat) (x:zx):Prop:=w.heap[X]?=V (.cells (zS x) 111 (0,0))
section
variable {w w':World} {X:Nat} {x:zx}
theorem zT.lt (h:zT w X x):X<w.heap.size:=(Array.getElem?_eq_some_iff.1 h).1
theorem zT.cell (h:zT w X x):w.cell? ⟨X,0,O⟩=V (E Z x.op)∧w.cell? ⟨X,1,O⟩=V (E Z x.a)∧w.cell? ⟨X,2,O⟩=V (E Z x.b)∧w.cell? ⟨X,3,O⟩=V (E Z x.c)∧w.cell? ⟨X,4,O⟩=V (E J x.v)∧w.cell? ⟨X,5,O⟩=V (E Z x.m)∧w.cell? ⟨X,6,O⟩=V (E Z x.w)∧ ∀o,w.frozen? ⟨X,o,O⟩=false:=by
 unfold zT zS at h;refine ⟨by simp[World.cell?,h],by simp[World.cell?,h],by simp[World.cell?,h],by simp[World.cell?,h],by simp[World.cell?,h],by simp[World.cell?,h],by simp[World.cell?,h],fun o=>by simp[World.frozen?,h]⟩
theorem zT.keeps {ay:Nat→Prop} (h:zT w X x) (k:Keeps ay w w') (hx: ¬ay X):zT w' X x:=(k.block X h.lt hx).trans h
theorem zT.zvQ (h:zT w X x) (n:Int):zT (w.setCell ⟨X,1,O⟩ (E Z n)) X { x with a:=n}:=zy h _
theorem zT.Je (h:zT w X x) (n:Int):zT (w.setCell ⟨X,2,O⟩ (E Z n)) X { x with b:=n}:=zy h _
theorem zT.zij (h:zT w X x) (n:Int):zT (w.setCell ⟨X,3,O⟩ (E Z n)) X { x with c:=n}:=zy h _
theorem zT.zaC (h:zT w X x) (n:Int):zT (w.setCell ⟨X,4,O⟩ (E J n)) X { x with v:=n}:=zy h _
theorem zT.znF (h:zT w X x) (n:Int):zT (w.setCell ⟨X,5,O⟩ (E Z n)) X { x with m:=n}:=zy h _
theorem zT.setW (h:zT w X x) (n:Int):zT (w.setCell ⟨X,6,O⟩ (E Z n)) X { x with w:=n}:=zy h _
end
theorem zJ (w:World) (X k:Nat) (u:Value):Keeps (fun i=>i=X) w (w.setCell ⟨X,k,O⟩ u):=(Keeps.refl (fun i=>i=X) w).setCell (p:=⟨X,k,O⟩) rfl u
def zpm (w:World) (X:Nat) (y:zx) (e:Ending) (w':World):Prop:=e=Rt .nilIface∧zT w' X y∧Keeps (fun i=>i=X) w w'
theorem Zj (s:ByteArray) (a b:Nat):(s.extract a b).data.toList=(s.data.toList.drop a).take (b - a):=by
 rw[ByteArray.data_extract];simp[Array.toList_extract,List.extract_eq_take_drop]
theorem GH (X:Nat) (x y:zx) (s:ByteArray) (n:Int) (w:World) (hx:zT w X x) (h:Gb x s.data.toList=some y) (hs:s.size≤1000000):
  Calls Tp 142 #[Y (V ⟨X,0,O⟩), .string s,E Z n] w (zpm w X y):=by
 obtain ⟨t,ht⟩: ∃t,t=s.extract 1 s.size:=⟨_,rfl⟩;have hsI:(s.size:Int)≤1000000:=Y1;have h1:1≤s.size:=by
  rcases Nat.eq_zero_or_pos s.size with h0|h0
  ·have:s.data.toList= []:=List.eq_nil_of_length_eq_zero (by rw[zL];exact h0);rw[this] at h;cases h
  ·exact h0
 have ou:(1:Int)≤(s.size:Int):=Y1;have htl:t.data.toList=s.data.toList.drop 1:=by rw[ht,Zj,List.take_of_length_le Y91]
 have htz:t.size=s.size - 1:=by rw[←zL t,htl,List.length_drop,zL]
 obtain ⟨c,hc⟩: ∃c,s.data.toList=c::t.data.toList:=by
  rw[htl]
  cases hl:s.data.toList with
  |nil=>rw[←zL,hl] at h1;simp at h1
  |cons c l=>exact ⟨c,rfl⟩
 rw[hc] at h;obtain ⟨u,hu⟩: ∃u,u=t.extract 0 (t.size - 2):=⟨_,rfl⟩;have qh:u.data.toList=t.data.toList.take (t.data.toList.length - 2):=by rw[hu,Zj,List.drop_zero,zL,Nat.sub_zero]
 have ML:(t.size:Int)≤1000000:=Y1;have H1:=Y0 (BP t ⟨#[61,48]⟩);have H2:=Y0 (BP t ⟨#[62,48]⟩);have e1:([61,48]:Str)=(⟨#[61,48]⟩:ByteArray).data.toList:=rfl;have e2:([62,48]:Str)=(⟨#[62,48]⟩:ByteArray).data.toList:=rfl;obtain ⟨o0,o1,o2,o3,o4,o5,o6,of⟩:=hx.cell;have hlt:=hx.lt;have HT:=Y0 ht;have htb:t.size≤9223372036854775807:=Y1;have rD:=Y0 htb;have fP: ∀(q:Str),q.length=2→Lib.hasSuffix t.data.toList q=true→2≤t.size:=by
  intro q hq hh;have:q<:+t.data.toList:=List.isSuffixOf_iff_suffix.1 hh;have:=this.length_le;rw[hq,zL] at this;exact this
 by_cases c1:Lib.hasSuffix t.data.toList [61,48]=true
 ·have hm: ∃v,kQ u.data.toList=some v∧1≤v∧v≤99∧y={ x with w:=1,m:=v}:=by
   simp only[Gb] at h;rw[show endsWith t.data.toList [61,48]=true from c1,if_pos rfl] at h;rw[←qh] at h;exact J90
  obtain ⟨v,hv,hv1,hv2,rfl⟩:=hm;have iN:(2:Int)≤(t.size:Int):=by have:=fP _ rfl c1;omega
  have nU:=Y0 c1;have aG:=Y0 (Vk u n v hv);have HU:=Y0 hu;have K1:=hx.setW 1;have HF:=Y0 (K1.znF v);have HK:Hid (Keeps (fun i=>i=X) w ((w.setCell ⟨X,6,O⟩ (E Z 1)).setCell ⟨X,5,O⟩ (E Z v))):=Y0 ((zJ w X 6 _).trans (zJ _ X 5 _) (fun _ h=>Or.inl h));have d1:decide (v<1)=false:=decide_eq_false Y1;have d2:decide (99<v)=false:=decide_eq_false Y1;clear hx h hs h1 ht htl htz hc qh hu c1 hv fP htb K1 e1 e2;go_enter Tryz.func142,Tryz.ntmps142;go_wp2_with fail;rw[←HT.out];refine (H1.out _ rD.out).mono ?_;rintro e w' ⟨rfl,rfl⟩;rw[show Lib.hasSuffix t.data.toList (⟨#[61,48]⟩:ByteArray).data.toList=true from nU.out];go_wp2_with fail;rw[←HU.out];exact zt4
 ·have yZ:Lib.hasSuffix t.data.toList [61,48]=false:=by simpa using c1
  by_cases c2:Lib.hasSuffix t.data.toList [62,48]=true
  ·have hm: ∃v,kQ u.data.toList=some v∧1≤v∧v≤99∧y={ x with w:=2,m:=v}:=by
    simp only[Gb] at h;rw[show endsWith t.data.toList [61,48]=false from yZ,show endsWith t.data.toList [62,48]=true from c2,if_neg Y2,if_pos rfl] at h;rw[←qh] at h;exact J90
   obtain ⟨v,hv,hv1,hv2,rfl⟩:=hm;have iN:(2:Int)≤(t.size:Int):=by have:=fP _ rfl c2;omega
   have nU:=Y0 yZ;have dD:=Y0 c2;have aG:=Y0 (Vk u n v hv);have HU:=Y0 hu;have K1:=hx.setW 2;have HF:=Y0 (K1.znF v);have HK:Hid (Keeps (fun i=>i=X) w ((w.setCell ⟨X,6,O⟩ (E Z 2)).setCell ⟨X,5,O⟩ (E Z v))):=Y0 ((zJ w X 6 _).trans (zJ _ X 5 _) (fun _ h=>Or.inl h));have d1:decide (v<1)=false:=decide_eq_false Y1;have d2:decide (99<v)=false:=decide_eq_false Y1;clear hx h hs h1 ht htl htz hc qh hu c1 yZ c2 hv fP htb K1 e1 e2;go_enter Tryz.func142,Tryz.ntmps142;go_wp2_with fail;rw[←HT.out];refine (H1.out _ rD.out).mono ?_;rintro e w' ⟨rfl,rfl⟩;rw[show Lib.hasSuffix t.data.toList (⟨#[61,48]⟩:ByteArray).data.toList=false from nU.out];go_wp2_with fail;refine (H2.out _ rD.out).mono ?_;rintro e w' ⟨rfl,rfl⟩;rw[show Lib.hasSuffix t.data.toList (⟨#[62,48]⟩:ByteArray).data.toList=true from dD.out];go_wp2_with fail
   rw[←HU.out];exact zt4
  ·have I4:Lib.hasSuffix t.data.toList [62,48]=false:=by simpa using c2
   have hm: ∃v,kQ t.data.toList=some v∧1≤v∧v≤99∧y={ x with m:=v}:=by
    simp only[Gb] at h;rw[show endsWith t.data.toList [61,48]=false from yZ,show endsWith t.data.toList [62,48]=false from I4,if_neg Y2,if_neg Y2] at h;exact J90
   obtain ⟨v,hv,hv1,hv2,rfl⟩:=hm;have nU:=Y0 yZ;have dD:=Y0 I4;have aG:=Y0 (Vk t n v hv);have HF:=Y0 (hx.znF v);have HK:Hid (Keeps (fun i=>i=X) w (w.setCell ⟨X,5,O⟩ (E Z v))):=Y0 (zJ w X 5 _);have d1:decide (v<1)=false:=decide_eq_false Y1;have d2:decide (99<v)=false:=decide_eq_false Y1;clear hx h hs h1 ht htl htz hc qh hu c1 yZ c2 I4 hv fP htb e1 e2;go_enter Tryz.func142,Tryz.ntmps142;go_wp2_with fail;rw[←HT.out];refine (H1.out _ rD.out).mono ?_;rintro e w' ⟨rfl,rfl⟩;rw[show Lib.hasSuffix t.data.toList (⟨#[61,48]⟩:ByteArray).data.toList=false from nU.out];go_wp2_with fail;refine (H2.out _ rD.out).mono ?_;rintro e w' ⟨rfl,rfl⟩;rw[show Lib.hasSuffix t.data.toList (⟨#[62,48]⟩:ByteArray).data.toList=false from dD.out];go_wp2_with fail;exact zt4
theorem JI: ∀{l:Str},Vs l=none→Lib.indexByte l 43= -1
 |[],_=>rfl
 |c::l,h=>by
  unfold Vs at h
  split at h
  ·cases h
  ·rename_i hc
   have h2:Vs l=none:=Y17
   have:=JI h2
   have hb:(c==43)=false:=by simpa using hc
   simp[Lib.indexByte,hb,this]
theorem JW: ∀{l p q:Str},Vs l=V (p,q)→Lib.indexByte l 43=p.length∧l=p++43::q
 |[],p,q,h=>by cases h
 |c::l,p,q,h=>by
  unfold Vs at h
  split at h
  ·rename_i hc
   injection h with h
   injection h with h1 h2
   subst h1 h2 hc
   exact ⟨by simp[Lib.indexByte],rfl⟩
  ·rename_i hc
   have hb:(c==43)=false:=by simpa using hc
   cases hs:Vs l with
   |none=>rw[hs] at h;cases h
   |some pq=>
    obtain ⟨p',q'⟩:=pq
    rw[hs] at h
    simp only[Option.map_some,Option.some.injEq,Prod.mk.injEq] at h
    obtain ⟨h1,h2⟩:=h
    subst h1 h2
    obtain ⟨i1,i2⟩:=JW hs
    refine ⟨?_,by rw[i2];rfl⟩
    have hne:((p'.length:Int)== -1)=false:=by rw[beq_eq_false_iff_ne];omega
    simp[Lib.indexByte,hb,i1]
theorem ziD (X:Nat) (x y:zx) (s:ByteArray) (n:Int) (w:World) (hx:zT w X x) (h:cellL x s.data.toList=some y) (hs:s.size≤1000000):
  Calls Tp 208 #[Y (V ⟨X,0,O⟩), .string s,E Z n] w (zpm w X y):=by
 have hin: ∃T,jg s.data.toList=some T:=by
  unfold cellL at h
  cases hi:jg s.data.toList with
  |none=>rw[hi] at h;cases h
  |some T=>exact ⟨T,rfl⟩
 obtain ⟨T,hT⟩:=hin
 have hc:2≤s.size∧s.data.toList.head?=some 91∧s.data.toList.getLast?=some 93∧T=(s.data.toList.drop 1).dropLast:=by
  unfold jg at hT
  split at hT
  ·rename_i hh
   exact ⟨by rw[←zL];exact hh.1,hh.2.1,hh.2.2,(Option.some.inj hT).symm⟩
  ·cases hT
 obtain ⟨h2,hh,hl,rfl⟩:=hc
 have qK:0<s.size:=Y1
 have uy:s.size - 1<s.size:=Y1
 have b0:(((s[0]'qK).toNat:Int) !=91)=false:=by
  rw[Bt s qK] at hh
  rw[bne_eq_false_iff_eq];exact (Zx _ 91).2 (Option.some.inj hh)
 have b1:(((s[s.size - 1]'uy).toNat:Int) !=93)=false:=by
  rw[List.getLast?_eq_getElem?,zL,ZY s _ uy] at hl
  rw[bne_eq_false_iff_eq];exact (Zx _ 93).2 (Option.some.inj hl)
 obtain ⟨t,ht⟩: ∃t,t=s.extract 1 (s.size - 1):=⟨_,rfl⟩
 have htl:t.data.toList=(s.data.toList.drop 1).dropLast:=by
  rw[ht,Zj,List.dropLast_eq_take,List.length_drop,zL]
 have htz:t.size=s.size - 2:=by rw[←zL t,htl,List.length_dropLast,List.length_drop,zL];omega
 have hsI:(s.size:Int)≤1000000:=Y1
 have iN:(2:Int)≤(s.size:Int):=Y1
 have htb:t.size≤9223372036854775807:=Y1
 unfold cellL at h
 rw[hT] at h
 rw[←htl] at h
 dsimp only at h
 obtain ⟨o0,o1,o2,o3,o4,o5,o6,of⟩:=hx.cell
 have hlt:=hx.lt
 have aX:=Y0 (vB t w htb)
 have HT:=Y0 ht
 have ML:(t.size:Int)≤1000000:=Y1
 have rD:=Y0 htb
 cases hr:Zr t.data.toList with
 |some r=>
  rw[hr] at h
  obtain rfl:=Option.some.inj h
  have HF:=Y0 (hx.Je r)
  have HK:=Y0 (zJ w X 2 (E Z r))
  have HR:=Y0 hr
  clear h hr hx hT hh hl ht htl htz htb hs h2
  go_enter Tryz.func208,Tryz.ntmps208
  go_wp2_with fail
  rw[←HT.out]
  refine aX.out.mono ?_
  rintro e w' ⟨m,rfl,hm,rfl⟩
  obtain rfl:=hm r HR.out
  clear hm
  rw[HR.out]
  simp only[Option.isSome_some]
  go_wp2
  go_ret
  exact ⟨rfl,HF.out,HK.out⟩
 |none=>
  rw[hr] at h
  dsimp only at h
  have HR:=Y0 hr
  cases hp:Vs t.data.toList with
  |none=>
   rw[hp] at h
   dsimp only at h
   obtain ⟨v,hv,rfl⟩:=Option.map_eq_some_iff.1 h
   have HF:=Y0 ((hx.Je (-1)).zaC v)
   have HK:=Y0 ((zJ w X 2 (E Z (-1))).trans (zJ _ X 4 (E J v)) (fun _ h=>Or.inl h))
   have oN:Hid (Lib.indexByte t.data.toList (43:Int).toNat.toUInt8= -1):=Y0 (JI hp)
   have aG:=Y0 (Vk t n v hv)
   clear h hr hx hT hh hl ht htl htz htb hs h2 hp hv
   go_enter Tryz.func208,Tryz.ntmps208
   go_wp2_with fail
   rw[←HT.out]
   refine aX.out.mono ?_
   rintro e w' ⟨m,rfl,hm,rfl⟩
   clear hm
   rw[HR.out]
   simp only[Option.isSome_none]
   go_wp2_with fail
   refine (Gh t 43 _).mono ?_
   rintro e w2 ⟨rfl,hw2⟩
   subst hw2
   rw[oN.out]
   go_wp2_with fail
   refine (aG.out _).mono ?_
   rintro e w3 ⟨rfl,rfl⟩
   go_wp2
   go_ret
   exact ⟨rfl,HF.out,HK.out⟩
  |some pq=>
   obtain ⟨p,q⟩:=pq
   rw[hp] at h
   dsimp only at h
   obtain ⟨hix,iJ⟩:=JW hp
   have MH: ∃r v,Zr p=some r∧kQ q=some v∧y={ x with b:=r,v:=v}:=by
    cases nI:Zr p with
    |none=>rw[nI] at h;cases h
    |some r=>
     cases qj:kQ q with
     |none=>rw[nI,qj] at h;cases h
     |some v=>rw[nI,qj] at h;exact ⟨r,v,rfl,rfl,(Option.some.inj h).symm⟩
   obtain ⟨r,v,nI,qj,rfl⟩:=MH
   obtain ⟨k,hk⟩: ∃k,k=p.length:=⟨_,rfl⟩
   have qg:t.size=k+1+q.length:=by rw[←zL t,iJ,List.length_append,List.length_cons,hk];omega
   obtain ⟨P,hP⟩: ∃P,P=t.extract 0 k:=⟨_,rfl⟩
   obtain ⟨Q,hQ⟩: ∃Q,Q=t.extract (k+1) t.size:=⟨_,rfl⟩
   have qL:P.data.toList=p:=by rw[hP,Zj,iJ,hk];simp
   have Dr:Q.data.toList=q:=by
    rw[hQ,Zj,iJ,hk,qg,hk]
    rw[show p++43::q=(p++ [43])++q by simp,List.drop_left' Y7,List.take_of_length_le Y1]
   have Lp:P.size=k:=by rw[←zL P,qL,hk]
   have HF:=Y0 (((hx.Je (-1)).Je r).zaC v)
   have HK:=Y0 (((zJ w X 2 (E Z (-1))).trans (zJ _ X 2 (E Z r)) (fun _ h=>Or.inl h)).trans (zJ _ X 4 (E J v)) (fun _ h=>Or.inl h))
   have oN:Hid (Lib.indexByte t.data.toList (43:Int).toNat.toUInt8=(k:Int)):=Y0 (by rw[hk];exact hix)
   have aG:=Y0 (Vk Q n v (by rw[Dr];exact qj))
   have Cz:Hid (Zr P.data.toList=some r):=Y0 (by rw[qL];exact nI)
   have oZ:=Y0 (fun w=>vB P w Y1)
   have HP:=Y0 hP
   have HQ:=Y0 hQ
   have hk1:(k:Int)+1≤(t.size:Int):=Y1
   have hk2:k+1≤t.size:=Y1
   clear h hr hx hT hh hl ht htl htz htb hs h2 hp qj nI hk hP hQ qL Dr Lp hix iJ qg
   go_enter Tryz.func208,Tryz.ntmps208
   go_wp2_with fail
   rw[←HT.out]
   refine aX.out.mono ?_
   rintro e w' ⟨m,rfl,hm,rfl⟩
   clear hm
   rw[HR.out]
   simp only[Option.isSome_none]
   go_wp2_with fail
   refine (Gh t 43 _).mono ?_
   rintro e w2 ⟨rfl,hw2⟩
   subst hw2
   rw[oN.out]
   go_wp2_with fail
   rw[←HP.out]
   refine (oZ.out _).mono ?_
   rintro e w3 ⟨m2,rfl,hm2,rfl⟩
   obtain rfl:=hm2 r Cz.out
   clear hm2
   rw[Cz.out]
   simp only[Option.isSome_some]
   go_wp2_with fail
   rw[←HQ.out]
   refine (aG.out _).mono ?_
   rintro e w3 ⟨rfl,rfl⟩
   go_wp2
   go_ret
   exact ⟨rfl,HF.out,HK.out⟩
def vD (l:Str):Value:= .string ⟨l.toArray⟩
theorem zaO:(Tryz.prog.info? 9).map (fun i=>(i.zero,i.size,i.bytes))=V (some (.string ⟨#[]⟩),1,16):=Y4
theorem zgQ (s:ByteArray) (a b:Nat):Value.string (s.extract a b)=vD ((s.data.toList.drop a).take (b - a)):=by
 unfold vD;rw[←Zj]
theorem zn {w:World} {base:Nat} {e:TypeId} {size n:Nat} {v:Value} {xs:List Value} (h:w.ownsRow base e size v n xs): ∃A c,v= .slice A n c:=by
 exact zvi
theorem Vx {w:World} {b b':Nat} {e:TypeId} {size n:Nat} {v:Value} {xs:List Value} (h:w.ownsRow b e size v n xs) (hb:b'≤b):w.ownsRow b' e size v n xs:=by
 obtain ⟨h1,h2|⟨g,cap,cur,rfl,hg,r⟩⟩:=h
 ·exact ⟨h1,Or.inl h2⟩
 ·exact ⟨h1,Or.inr ⟨g,cap,cur,rfl,Nat.le_trans hb hg,r⟩⟩
def bY (w:World) (B:Nat) (v:Value) (D:List Str):Prop:=w.ownsRow B 9 1 v D.length (D.map vD)
def bq (l:Str) (i at_:Nat) (D:List Str):Prop:=
 at_≤i∧(i≤l.length→ZN l=D++vo ((l.drop at_).take (i - at_)) (l.drop i))∧(l.length<i→ZN l=D)∧D.length≤i
theorem zfE (l:Str):bq l 0 0 []:=⟨Nat.le_refl _,fun _=>by simp[ZN],fun h=>by omega,Nat.le_refl _⟩
theorem zjz {l:Str} {i at_:Nat} {D:List Str} (h:bq l i at_ D) (hi:i<l.length) (hc:l[i]≠32):bq l (i+1) at_ D:=by
 obtain ⟨h1,h2,h3,h4⟩:=h;refine ⟨by omega,fun _=>?_,fun h=>by omega,by omega⟩;rw[h2 Y1,List.drop_eq_getElem_cons hi,vo,if_neg hc];congr 2;rw[show i+1 - at_=(i - at_)+1 by omega,List.take_add_one,List.getElem?_drop,show at_+(i - at_)=i by omega,List.getElem?_eq_getElem hi];rfl
theorem zsf {l:Str} {i at_:Nat} (hi:i≤l.length) (h1:at_≤i):(l.drop at_).take (i - at_)= []↔i=at_:=by
 constructor
 ·intro h;have:=congrArg List.length h;rw[List.length_take,List.length_drop] at this;simp at this;omega
 ·rintro rfl;simp
theorem zkU {l:Str} {i at_:Nat} {D:List Str} (h:bq l i at_ D) (hi:i≤l.length) (hc: ∀(h:i<l.length),l[i]=32):bq l (i+1) (i+1) (if at_<i then D++ [(l.drop at_).take (i - at_)] else D):=by
 obtain ⟨h1,h2,h3,h4⟩:=h;have hn:=zsf hi h1;have hlen:(if at_<i then D++ [(l.drop at_).take (i - at_)] else D).length≤i+1:=by
  split
  ·simp;omega
  ·omega
 by_cases hlt:i<l.length
 ·refine ⟨Nat.le_refl _,fun _=>?_,fun h=>by omega,hlen⟩;rw[h2 hi,List.drop_eq_getElem_cons hlt,vo,if_pos (hc hlt)];by_cases ha:at_<i
  ·rw[if_neg (fun e=>by have:=hn.1 e;omega),if_pos ha];simp
  ·rw[if_pos (hn.2 Y1),if_neg ha];simp
 ·refine ⟨Nat.le_refl _,fun h=>by omega,fun _=>?_,hlen⟩;rw[h2 hi,show l.drop i= [] from List.drop_of_length_le Y1,vo];by_cases ha:at_<i
  ·rw[if_neg (fun e=>by have:=hn.1 e;omega),if_pos ha]
  ·rw[if_pos (hn.2 Y1),if_neg ha,List.append_nil]
theorem zq7 {l:Str} (h: ∀c∈l,c≠59):Lib.indexByte l 59= -1:=by
 induction l with
 |nil=>rfl
 |cons c l ih=>
  have hb:(c==59)=false:=by simpa using h c List.mem_cons_self
  simp[Lib.indexByte,hb,ih (fun x hx=>h x (List.mem_cons_of_mem _ hx))]
def zhd (w:World) (l:Str) (e:Ending) (w':World):Prop:= ∃v,e= .returned v∧bY w' w.heap.size v (ZN l)∧Below w.heap.size w w'
theorem JQ (s:ByteArray) (w:World) (hs:s.size≤100000) (hsemi: ∀c∈s.data.toList,c≠59):Calls Tp 137 #[.string s] w (zhd w s.data.toList):=by
 have hsI:(s.size:Int)≤100000:=Y1;have oN:Hid (Lib.indexByte s.data.toList (59:Int).toNat.toUInt8= -1):=Y0 (zq7 hsemi);obtain ⟨i0,hi0,hz0,hs0,hb0⟩:=info_parts zaO;have HS:=Y0 hs;clear hs hsemi;go_enter Tryz.func137,Tryz.ntmps137;go_wp2_with fail;refine (Gh s 59 _).mono ?_;rintro e w2 ⟨rfl,hw2⟩;subst hw2;rw[oN.out];go_wp2_with fail;go_loopw [4,5,6] (fun lv av iv wr=> ∃(i at_:Nat) (D:List Str),i≤s.size+1∧at_≤i∧av=E Z at_∧iv=E Z i∧Hid (bq s.data.toList i at_ D)∧Hid (bY wr w2.heap.size lv D)∧Hid (Below w2.heap.size w2 wr)) (fun _ _ iv _=>s.size+1 - (intOf iv).toNat);case atStart=>exact ⟨0,0,[],by omega,by omega,rfl,rfl,Y0 (zfE _),Y0 (World.ownsRow_nil _ _ _ _),Y0 (Below.refl _ _)⟩
 case round=>
  obtain ⟨i,at_,D,hi,hai,rfl,rfl,HW,HR,HB⟩:=hrel;have dH:(i:Int)≤(s.size:Int)+1:=Y1;have Ai:(at_:Int)≤(i:Int):=Y1;obtain ⟨A,c,hv⟩:=zn HR.out;subst hv;have hDl:D.length≤i:=HW.out.2.2.2;by_cases hle:i≤s.size;case neg=>
   have hd:decide ((i:Int)≤(s.size:Int))=false:=decide_eq_false Y1;have hd2:decide (i≤s.size)=false:=decide_eq_false hle;have aD:Hid (ZN s.data.toList=D):=Y0 (HW.out.2.2.1 Y21);clear hle;go_wp2;go_ret;exact ⟨_,rfl,by rw[aD.out];exact HR.out,HB.out⟩
  have yD:(i:Int)≤(s.size:Int):=Y1;have hd2:decide (i≤s.size)=true:=decide_eq_true hle;by_cases hch: ∃h:i<s.size,s[i]≠32
  ·obtain ⟨hlt,hne⟩:=hch;have aH:(i:Int)<(s.size:Int):=Y1;have hb:((s[i].toNat:Int) !=32)=true:=by rw[bne_iff_ne];intro e;exact hne ((Zx _ 32).1 e)
   have cu:Hid (bq s.data.toList (i+1) at_ D):=Y0 (zjz HW.out Y63 hne);clear hne;go_wp2;go_roundw;case rel=>exact ⟨i+1,at_,D,by omega,by omega,rfl,by go_num,cu,HR,HB⟩
   case measure=>simp[intOf];omega
  ·have iB:=Y0 (zkU HW.out (by rw[zL];exact hle) (fun h=>by
    have h2:i<s.size:=by rw[zL] at h;exact h
    exact Classical.byContradiction fun hne=>hch ⟨h2,hne⟩))
   have hex:decide (i<s.size)=false∨(∃h:i<s.size,decide (i<s.size)=true∧((s[i].toNat:Int) !=32)=false):=by
    by_cases h:i<s.size
    ·refine Or.inr ⟨h,decide_eq_true h,?_⟩;rw[bne_eq_false_iff_eq];exact (Zx _ 32).2 (Classical.byContradiction fun hne=>hch ⟨h,hne⟩)
    ·exact Or.inl (decide_eq_false h)
   clear hch;by_cases ha:at_<i
   ·rw[if_pos ha] at iB;have Sr:(at_:Int)<(i:Int):=Y1;have hdl:D.length+1≤200000:=by have:=HS.out;omega
    have haN:at_≤i:=Y1;have lu:Hid ((wr.alloc (Ce #[.string (s.extract at_ i)] 9)).ownsRow w2.heap.size 9 1 (.slice A D.length c) D.length (D.map vD)):=Y0 (HR.out.alloc _);have Hw:Hid (∀(j:Nat) (u:Value),[Value.string (s.extract at_ i)][j]?=some u→(wr.alloc (Ce #[.string (s.extract at_ i)] 9)).cell? ((⟨wr.heap.size,0,O⟩:Addr).add j)=some u):=Y0 (fun j u hu=>by
     rw[Addr.add_lit,Nat.zero_add]
     exact (World.cell?_alloc_at _ _ _ _ rfl).trans Y23)
    have Ib:Hid (∀u∈ [Value.string (s.extract at_ i)],u.oneCell'=true):=Y0 (fun u hu=>by
     rw[List.mem_singleton] at hu;subst hu;rfl)
    have EX:=Y0 (show D.length+1≤maxLen by unfold maxLen;omega);have Cn:=Y0 (show (D.length+1)*16≤140737488355328 by omega);have fV:=Y0 (show w2.heap.size≤(wr.alloc (Ce #[.string (s.extract at_ i)] 9)).heap.size by have:=HB.out.size;simp;omega);have HE:=Y0 (zgQ s at_ i);have AJ:=Y0 (HB.out.alloc HB.out.size (.cells #[.string (s.extract at_ i)] 9));have aD:Hid (∀v' w',w'.ownsRow w2.heap.size 9 1 v' (D.length+1) (D.map vD++ [Value.string (s.extract at_ i)])→bY w' w2.heap.size v' (D++ [(s.data.toList.drop at_).take (i - at_)])):=Y0 (fun v' w' h=>by
     unfold bY
     rw[List.length_append,List.map_append,List.map_singleton,←HE.out]
     exact h)
    have oL:Hid (∀w',(wr.alloc (Ce #[.string (s.extract at_ i)] 9)).grownBy w' (Value.slice A D.length c).ownBlock→Below w2.heap.size w2 w'):=Y0 (fun w' h=>AJ.out.grown h fV.out (fun k e=>(lu.out.lt k e).1));clear hDl hdl;rcases hex with t1|⟨hlt,t1,t2⟩
    all_goals
     go_wp2_with (at_builtin;refine wpList_append_own _ rfl _ _ 90 rfl w2.heap.size 9 i0 _ 1 16 Tryz.underlying90 hi0 hz0 hs0 hb0 rfl Y2 _ _ _ rfl lu.out ⟨wr.heap.size,0,O⟩ 1 1 [.string (s.extract at_ i)] rfl rfl Hw.out Ib.out EX.out Cn.out fV.out ?_;intro v' w3 hown hgrow hnew;obtain ⟨A',c',rfl⟩:=zn hown;have rz:=Y0 (aD.out _ _ hown);have aY:=Y0 (oL.out _ hgrow);clear hown hgrow hnew)
     go_roundw
     case rel=>exact ⟨i+1,i+1,_,by omega,by omega,by go_num,by go_num,iB,rz,aY⟩
     case measure=>simp[intOf];omega
   ·obtain rfl:at_=i:=Y1;rw[if_neg Y1] at iB;rcases hex with t1|⟨hlt,t1,t2⟩
    all_goals
     go_wp2
     go_roundw
     case rel=>exact ⟨at_+1,at_+1,D,by omega,by omega,by go_num,by go_num,iB,HR,HB⟩
     case measure=>simp[intOf];omega
open Go.RowKit Go.Maps
def ziW (x:zx):List Value:= [E Z x.op,E Z x.a,E Z x.b,E Z x.c,E J x.v,E Z x.m,E Z x.w]
def Ze (l:List zx):List Value:=l.flatMap ziW
def ZO (l:List (Str×Nat)):List Value:=l.flatMap fun p=> [vD p.1,E Z p.2]
def kW (l:List Nat):List Value:=l.map fun i:Nat=> E Z (i:Int)
def KJ (l:List (Nat×Nat×Str)):List Value:=l.flatMap fun p=> [E Z p.1,E Z p.2.1,vD p.2.2]
theorem za {base:Nat} {e:TypeId} {size:Nat} {v:Value} {n:Nat} {xs:List Value} {w w':World} (h:w.ownsRow base e size v n xs) (hb: ∀k,v.ownBlock=some k→w'.heap[k]?=w.heap[k]?):w'.ownsRow base e size v n xs:=by
 exact zw8
theorem Zz {w:World} {rb:Nat} {v:Value} {e:TypeId} {size n:Nat} {xs:List Value} {g:Nat} (h:w.ownsRow rb e size v n xs) (hv:v.ownBlock=some g): ∃cur,w.heap[g]?=V (.cells cur e (0,0)):=by
 obtain ⟨_,⟨rfl,_⟩ |⟨g',cap,cur,rfl,_,hh,_⟩⟩:=h
 ·cases hv
 ·cases hv;exact ⟨cur,hh⟩
def kD (w:World) (mb:Nat) (f:Str→Option Nat) (N:Nat):Prop:=
 ∃(D:DataW Unit) (n:Nat),w.ownsMap Tp 9 (plainElem Tp 3) mb n D∧n≤N∧ ∀k:Str,Maps.has D (.string k)=(f k).isSome∧ ∀j,f k=some j→D.atKey (.string k) (.lit (.int Z 0))= .lit (.int Z (j:Int))
theorem Ko {H:Type} {P:Program} {k:TypeId} {R:Value→Option (DataW H×List MemPlace)} {b n:Nat} {D:DataW H} {w w':World} (h:w.ownsMap P k R b n D) (e:w'.heap[b]?=w.heap[b]?):w'.ownsMap P k R b n D:=by
 obtain ⟨es,c,h1,h2,h3,h4⟩:=h;exact ⟨es,c,e.trans h1,h2,h3,h4⟩
theorem kD.lt {w:World} {mb:Nat} {f:Str→Option Nat} {N:Nat} (h:kD w mb f N):mb<w.heap.size:=by obtain ⟨_,_,h,_⟩:=h;exact h.lt
theorem kD.of_block {w w':World} {mb:Nat} {f:Str→Option Nat} {N:Nat} (h:kD w mb f N) (e:w'.heap[mb]?=w.heap[mb]?):kD w' mb f N:=by
 obtain ⟨D,n,h1,h2,h3⟩:=h;exact ⟨D,n,Ko h1 e,h2,h3⟩
theorem kD.isMap {w:World} {mb:Nat} {f:Str→Option Nat} {N:Nat} (h:kD w mb f N): ∃es c,w.heap[mb]?=V (.map es c):=by
 obtain ⟨_,_,⟨es,c,h,_⟩,_⟩:=h;exact ⟨es,c,h⟩
def zaF (labels:List (Str×Nat)) (t:Str):Option Nat:=labels.findIdx? fun p=>p.1==t
structure Rd (w:World) (R mb rb:Nat) (vc vl vn vw:Value) (st:St):Prop where
 obj:w.heap[R]?=V (.cells #[vc,vl,vn, .map (some mb),vw] 199 (0,0))
 code:w.ownsRow rb 111 7 vc st.code.length (Ze st.code)
 labels:w.ownsRow rb 204 2 vl st.labels.length (ZO st.labels)
 lines:w.ownsRow rb 3 1 vn st.lines.length (kW st.lines)
 wants:w.ownsRow rb 203 3 vw st.wants.length (KJ st.wants)
 map:kD w mb (zaF st.labels) st.labels.length
def GJ (R mb:Nat) (vc vl vn vw:Value) (k:Nat):Prop:=k=R∨k=mb∨vc.ownBlock=some k∨vl.ownBlock=some k∨vn.ownBlock=some k∨vw.ownBlock=some k
section
variable {w w':World} {R mb rb:Nat} {vc vl vn vw:Value} {st:St}
theorem Rd.lt (h:Rd w R mb rb vc vl vn vw st):R<w.heap.size:=(Array.getElem?_eq_some_iff.1 h.obj).1
theorem Rd.cell (h:Rd w R mb rb vc vl vn vw st):w.cell? ⟨R,0,O⟩=some vc∧w.cell? ⟨R,1,O⟩=some vl∧w.cell? ⟨R,2,O⟩=some vn∧w.cell? ⟨R,3,O⟩=V (.map (some mb))∧w.cell? ⟨R,4,O⟩=some vw∧ ∀o,w.frozen? ⟨R,o,O⟩=false:=by
 exact zwP
theorem Rd.of_lt (h:Rd w R mb rb vc vl vn vw st) {k:Nat} (hk:GJ R mb vc vl vn vw k):k<w.heap.size:=by
 rcases hk with rfl|rfl|hk|hk|hk|hk
 ·exact h.lt
 ·exact h.map.lt
 ·exact (h.code.lt k hk).2
 ·exact (h.labels.lt k hk).2
 ·exact (h.lines.lt k hk).2
 ·exact (h.wants.lt k hk).2
theorem Rd.zk (h:Rd w R mb rb vc vl vn vw st) (e: ∀k,GJ R mb vc vl vn vw k→w'.heap[k]?=w.heap[k]?):Rd w' R mb rb vc vl vn vw st:=
 ⟨(e R (Or.inl rfl)).trans h.obj,za h.code fun k hk=>e k (Or.inr (Or.inr (Or.inl hk))),za h.labels fun k hk=>e k (Or.inr (Or.inr (Or.inr (Or.inl hk)))),za h.lines fun k hk=>e k (Or.inr (Or.inr (Or.inr (Or.inr (Or.inl hk))))),za h.wants fun k hk=>e k (Or.inr (Or.inr (Or.inr (Or.inr (Or.inr hk))))),h.map.of_block (e mb (Or.inr (Or.inl rfl)))⟩
theorem Rd.keeps {X:Nat→Prop} (h:Rd w R mb rb vc vl vn vw st) (k:Keeps X w w') (hx: ∀i,GJ R mb vc vl vn vw i→ ¬X i):Rd w' R mb rb vc vl vn vw st:=
 h.zk fun i hi=>k.block i (h.of_lt hi) (hx i hi)
theorem Rd.below (h:Rd w R mb rb vc vl vn vw st) (k:Below w.heap.size w w'):Rd w' R mb rb vc vl vn vw st:=h.zk fun i hi=>k.block i (h.of_lt hi)
def kP (w:World) (k:Nat):Nat:=
 match w.heap[k]? with
 |some (.cells _ t _)=>t+2
 |some (.map _ _)=>1
 |_=>0
theorem zbi {w w':World} {k:Nat} (h:w'.heap[k]?=w.heap[k]?):kP w' k=kP w k:=by unfold kP;rw[h]
theorem Vj {w:World} {k:Nat} {c:Array Value} {t:TypeId} {f:Nat×Nat} (h:w.heap[k]?=V (.cells c t f)):kP w k=t+2:=by unfold kP;rw[h]
theorem zI {w:World} {rb:Nat} {v:Value} {e:TypeId} {size n:Nat} {xs:List Value} {g:Nat} (h:w.ownsRow rb e size v n xs) (hv:v.ownBlock=some g):kP w g=e+2:=by
 obtain ⟨c,hc⟩:=Zz h hv;exact Vj hc
theorem Rd.vO (h:Rd w R mb rb vc vl vn vw st):kP w R=199+2:=Vj h.obj
theorem Rd.zaH (h:Rd w R mb rb vc vl vn vw st):kP w mb=1:=by
 obtain ⟨es,c,hm⟩:=h.map.isMap;unfold kP;rw[hm]
theorem zH {w:World} {k k':Nat} {a b:Nat} (h:kP w k=a) (h':kP w k'=b) (hne:a≠b):k≠k':=fun e=>hne (by rw[←h,←h',e])
theorem own_ne {w:World} {rb:Nat} {v:Value} {e:TypeId} {size n:Nat} {xs:List Value} {k b:Nat} (h:w.ownsRow rb e size v n xs) (h':kP w k=b) (hne:b≠e+2):some k≠v.ownBlock:=fun he=>zH h' (zI h he.symm) hne rfl
theorem a5.Q67 (h:zP:=by
 exact ⟨zy (hR2.trans h.obj) _,(za hr fun k hk=>Below.heap_setCell _ _ _ _ (hnR k hk)),(za (za h.labels fun k hk=>hg.block k (h.labels.lt k hk).2 (own_ne h.code (zI h.labels hk) Y2)) fun k hk=>Below.heap_setCell _ _ _ _ (zH (zI h.labels hk) h.vO Y2)),(za (za h.lines fun k hk=>hg.block k (h.lines.lt k hk).2 (own_ne h.code (zI h.lines hk) Y2)) fun k hk=>Below.heap_setCell _ _ _ _ (zH (zI h.lines hk) h.vO Y2)),(za (za h.wants fun k hk=>hg.block k (h.wants.lt k hk).2 (own_ne h.code (zI h.wants hk) Y2)) fun k hk=>Below.heap_setCell _ _ _ _ (zH (zI h.wants hk) h.vO Y2)),(h.map.of_block (hg.block mb h.map.lt (own_ne h.code h.zaH Y2))).of_block (Below.heap_setCell _ _ _ _ (zH h.zaH h.vO Y2))⟩):zP:=h
open a5 in
theorem Rd.zbn (h:Rd w R mb rb vc vl vn vw st) {w2:World} {v':Value} (x:zx) (hg:w.grownBy w2 vc.ownBlock) (hr:w2.ownsRow rb 111 7 v' (st.code++ [x]).length (Ze (st.code++ [x]))):Rd (w2.setCell ⟨R,0,O⟩ v') R mb rb v' vl vn vw { st with code:=st.code++ [x]}:=by
 have hR2:w2.heap[R]?=w.heap[R]?:=hg.block R h.lt (own_ne h.code h.vO Y2);exact J67
theorem Rd.jA {w2:World} {v':Value} (fO:w.heap[R]?=V (.cells #[vc,vl,vn, .map (some mb),vw] 199 (0,0))) (hcode:w.ownsRow rb 111 7 vc st.code.length (Ze st.code)) (hlab:w.ownsRow rb 204 2 vl st.labels.length (ZO st.labels)) (hlin:w.ownsRow rb 3 1 vn st.lines.length (kW st.lines)) (hwan:w.ownsRow rb 203 3 vw st.wants.length (KJ st.wants)) (x:Str×Nat) (hmap:kD w mb (zaF (st.labels++ [x])) (st.labels++ [x]).length)
  (hg:w.grownBy w2 vl.ownBlock) (hr:w2.ownsRow rb 204 2 v' (st.labels++ [x]).length (ZO (st.labels++ [x]))):Rd (w2.setCell ⟨R,1,O⟩ v') R mb rb vc v' vn vw { st with labels:=st.labels++ [x]}:=by
 have tR:kP w R=199+2:=Vj fO;have tM:kP w mb=1:=by
  obtain ⟨es,c,hm⟩:=hmap.isMap;unfold kP;rw[hm]
 have hlt:R<w.heap.size:=(Array.getElem?_eq_some_iff.1 fO).1;have hR2:w2.heap[R]?=w.heap[R]?:=hg.block R hlt (own_ne hlab tR Y2);have hnR: ∀k,v'.ownBlock=some k→k≠R:=fun k hk=>zH (zI hr hk) ((zbi hR2).trans tR) Y2;refine ⟨zy (hR2.trans fO) _,?_,?_,?_,?_,?_⟩
 ·exact za (za hcode fun k hk=>hg.block k (hcode.lt k hk).2 (own_ne hlab (zI hcode hk) Y2)) fun k hk=>Below.heap_setCell _ _ _ _ (zH (zI hcode hk) tR Y2)
 ·exact za hr fun k hk=>Below.heap_setCell _ _ _ _ (hnR k hk)
 ·exact za (za hlin fun k hk=>hg.block k (hlin.lt k hk).2 (own_ne hlab (zI hlin hk) Y2)) fun k hk=>Below.heap_setCell _ _ _ _ (zH (zI hlin hk) tR Y2)
 ·exact za (za hwan fun k hk=>hg.block k (hwan.lt k hk).2 (own_ne hlab (zI hwan hk) Y2)) fun k hk=>Below.heap_setCell _ _ _ _ (zH (zI hwan hk) tR Y2)
 ·exact (hmap.of_block (hg.block mb hmap.lt (own_ne hlab tM Y2))).of_block (Below.heap_setCell _ _ _ _ (zH tM tR Y2))
theorem a6.Q67 (h:zP:=by
 exact ⟨zy (hR2.trans h.obj) _,(za (za h.code fun k hk=>hg.block k (h.code.lt k hk).2 (own_ne h.lines (zI h.code hk) Y2)) fun k hk=>Below.heap_setCell _ _ _ _ (zH (zI h.code hk) h.vO Y2)),(za (za h.labels fun k hk=>hg.block k (h.labels.lt k hk).2 (own_ne h.lines (zI h.labels hk) Y2)) fun k hk=>Below.heap_setCell _ _ _ _ (zH (zI h.labels hk) h.vO Y2)),(za hr fun k hk=>Below.heap_setCell _ _ _ _ (hnR k hk)),(za (za h.wants fun k hk=>hg.block k (h.wants.lt k hk).2 (own_ne h.lines (zI h.wants hk) Y2)) fun k hk=>Below.heap_setCell _ _ _ _ (zH (zI h.wants hk) h.vO Y2)),(h.map.of_block (hg.block mb h.map.lt (own_ne h.lines h.zaH Y2))).of_block (Below.heap_setCell _ _ _ _ (zH h.zaH h.vO Y2))⟩):zP:=h
open a6 in
theorem Rd.Jy (h:Rd w R mb rb vc vl vn vw st) {w2:World} {v':Value} (x:Nat) (hg:w.grownBy w2 vn.ownBlock) (hr:w2.ownsRow rb 3 1 v' (st.lines++ [x]).length (kW (st.lines++ [x]))):Rd (w2.setCell ⟨R,2,O⟩ v') R mb rb vc vl v' vw { st with lines:=st.lines++ [x]}:=by
 have hR2:w2.heap[R]?=w.heap[R]?:=hg.block R h.lt (own_ne h.lines h.vO Y2);exact J67
theorem a7.Q67 (h:zP:=by
 exact ⟨zy (hR2.trans h.obj) _,(za (za h.code fun k hk=>hg.block k (h.code.lt k hk).2 (own_ne h.wants (zI h.code hk) Y2)) fun k hk=>Below.heap_setCell _ _ _ _ (zH (zI h.code hk) h.vO Y2)),(za (za h.labels fun k hk=>hg.block k (h.labels.lt k hk).2 (own_ne h.wants (zI h.labels hk) Y2)) fun k hk=>Below.heap_setCell _ _ _ _ (zH (zI h.labels hk) h.vO Y2)),(za (za h.lines fun k hk=>hg.block k (h.lines.lt k hk).2 (own_ne h.wants (zI h.lines hk) Y2)) fun k hk=>Below.heap_setCell _ _ _ _ (zH (zI h.lines hk) h.vO Y2)),(za hr fun k hk=>Below.heap_setCell _ _ _ _ (hnR k hk)),(h.map.of_block (hg.block mb h.map.lt (own_ne h.wants h.zaH Y2))).of_block (Below.heap_setCell _ _ _ _ (zH h.zaH h.vO Y2))⟩):zP:=h
open a7 in
theorem Rd.JU (h:Rd w R mb rb vc vl vn vw st) {w2:World} {v':Value} (x:Nat×Nat×Str) (hg:w.grownBy w2 vw.ownBlock) (hr:w2.ownsRow rb 203 3 v' (st.wants++ [x]).length (KJ (st.wants++ [x]))):Rd (w2.setCell ⟨R,4,O⟩ v') R mb rb vc vl vn v' { st with wants:=st.wants++ [x]}:=by
 have hR2:w2.heap[R]?=w.heap[R]?:=hg.block R h.lt (own_ne h.wants h.vO Y2);exact J67
end
def VB (w:World) (R mb rb:Nat) (vc vl vn vw:Value) (st:St) (X:Nat) (y:zx) (o:Option Str) (i:Nat) (e:Ending) (w':World):Prop:=
 e=Rt .nilIface∧zT w' X y∧ ∃aN,Rd w' R mb rb vc vl vn aN { st with wants:=st.wants++o.toList.map (fun t=>(st.code.length,i,t))}∧Keeps (fun k=>k=X∨GJ R mb vc vl vn vw k) w w'∧ ∀k,aN.ownBlock=some k→vw.ownBlock=some k∨w.heap.size≤k
section
variable {w w':World} {R mb rb:Nat} {vc vl vn vw:Value} {st:St} {X:Nat} {y:zx} {i:Nat}
theorem Vr (h:Rd w R mb rb vc vl vn vw st) (hX: ¬GJ R mb vc vl vn vw X) (hy:zT w' X y) (hk:Keeps (fun i=>i=X) w w'):VB w R mb rb vc vl vn vw st X y none i (.returned .nilIface) w':=by
 exact zw4
end
theorem a8.Q55 (h:zP:=by
 have aD:=Y0 (Vr (i:=i) hR hX (hx.zvQ r) (zJ w X 1 _));exact J25):zP:=h
open a8 in
theorem zeN {w:World} {R mb rb:Nat} {vc vl vn vw:Value} {st:St} {X:Nat} {x:zx} (hR:Rd w R mb rb vc vl vn vw st) (hX: ¬GJ R mb vc vl vn vw X) (hx:zT w X x) (s:ByteArray) (hs:s.size≤100000) (i:Nat) (r:Int) (hr:Zr s.data.toList=some r):
  Calls Tp 141 #[Y (V ⟨R,0,O⟩),Y (V ⟨X,0,O⟩),E Z 1, .string s,E Z i] w (VB w R mb rb vc vl vn vw st X { x with a:=r} none i):=by
 exact J55
theorem a9.Q55 (h:zP:=by
 have aD:=Y0 (Vr (i:=i) hR hX (hx.Je r) (zJ w X 2 _));exact J25):zP:=h
open a9 in
theorem zew {w:World} {R mb rb:Nat} {vc vl vn vw:Value} {st:St} {X:Nat} {x:zx} (hR:Rd w R mb rb vc vl vn vw st) (hX: ¬GJ R mb vc vl vn vw X) (hx:zT w X x) (s:ByteArray) (hs:s.size≤100000) (i:Nat) (r:Int) (hr:Zr s.data.toList=some r):
  Calls Tp 141 #[Y (V ⟨R,0,O⟩),Y (V ⟨X,0,O⟩),E Z 2, .string s,E Z i] w (VB w R mb rb vc vl vn vw st X { x with b:=r} none i):=by
 exact J55
theorem a10.Q55 (h:zP:=by
 have aD:=Y0 (Vr (i:=i) hR hX (hx.zij r) (zJ w X 3 _));exact J25):zP:=h
open a10 in
theorem zev {w:World} {R mb rb:Nat} {vc vl vn vw:Value} {st:St} {X:Nat} {x:zx} (hR:Rd w R mb rb vc vl vn vw st) (hX: ¬GJ R mb vc vl vn vw X) (hx:zT w X x) (s:ByteArray) (hs:s.size≤100000) (i:Nat) (r:Int) (hr:Zr s.data.toList=some r):
  Calls Tp 141 #[Y (V ⟨R,0,O⟩),Y (V ⟨X,0,O⟩),E Z 3, .string s,E Z i] w (VB w R mb rb vc vl vn vw st X { x with c:=r} none i):=by
 exact J55
theorem a11.Q55 (h:zP:=by
 have aD:=Y0 (Vr (i:=i) hR hX (hx.zij r) (zJ w X 3 _));exact J25):zP:=h
open a11 in
theorem zeB {w:World} {R mb rb:Nat} {vc vl vn vw:Value} {st:St} {X:Nat} {x:zx} (hR:Rd w R mb rb vc vl vn vw st) (hX: ¬GJ R mb vc vl vn vw X) (hx:zT w X x) (s:ByteArray) (hs:s.size≤100000) (i:Nat) (r:Int) (hr:Zr s.data.toList=some r):
  Calls Tp 141 #[Y (V ⟨R,0,O⟩),Y (V ⟨X,0,O⟩),E Z 4, .string s,E Z i] w (VB w R mb rb vc vl vn vw st X { x with c:=r} none i):=by
 exact J55
theorem a12.Q55 (h:zP:=by
 have aD:=Y0 (Vr (i:=i) hR hX (hx.Je r) (zJ w X 2 _));exact J25):zP:=h
open a12 in
theorem zeb {w:World} {R mb rb:Nat} {vc vl vn vw:Value} {st:St} {X:Nat} {x:zx} (hR:Rd w R mb rb vc vl vn vw st) (hX: ¬GJ R mb vc vl vn vw X) (hx:zT w X x) (s:ByteArray) (hs:s.size≤100000) (i:Nat) (r:Int) (hr:Zr s.data.toList=some r):
  Calls Tp 141 #[Y (V ⟨R,0,O⟩),Y (V ⟨X,0,O⟩),E Z 5, .string s,E Z i] w (VB w R mb rb vc vl vn vw st X { x with b:=r} none i):=by
 exact J55
theorem a13.Q27 (h:zP:=by
 clear hm;rw[HR.out];simp only[Option.isSome_none];exact J86):zP:=h
theorem a13.Q55 (h:zP:=by
 have aD:=Y0 (Vr (i:=i) hR hX ((hx.zij (-1)).zaC v) ((zJ w X 3 (E Z (-1))).trans (zJ _ X 4 (E J v)) (fun _ h=>Or.inl h)));have HR:=Y0 hr;have aG:=Y0 (Vk s (i:Int) v hv);clear hR hX hx hr hs hv;exact J27):zP:=h
open a13 in
theorem zdQ {w:World} {R mb rb:Nat} {vc vl vn vw:Value} {st:St} {X:Nat} {x:zx} (hR:Rd w R mb rb vc vl vn vw st) (hX: ¬GJ R mb vc vl vn vw X) (hx:zT w X x) (s:ByteArray) (hs:s.size≤100000) (i:Nat) (v:Int) (hr:Zr s.data.toList=none) (hv:kQ s.data.toList=some v):
  Calls Tp 141 #[Y (V ⟨R,0,O⟩),Y (V ⟨X,0,O⟩),E Z 4, .string s,E Z i] w (VB w R mb rb vc vl vn vw st X { x with c:= -1,v:=v} none i):=by
 exact J55
theorem a14.Q27 (h:zP:=by
 clear hm;rw[HR.out];simp only[Option.isSome_none];exact J86):zP:=h
theorem a14.Q55 (h:zP:=by
 have aD:=Y0 (Vr (i:=i) hR hX ((hx.Je (-1)).zaC v) ((zJ w X 2 (E Z (-1))).trans (zJ _ X 4 (E J v)) (fun _ h=>Or.inl h)));have HR:=Y0 hr;have aG:=Y0 (Vk s (i:Int) v hv);clear hR hX hx hr hs hv;exact J27):zP:=h
open a14 in
theorem zeE {w:World} {R mb rb:Nat} {vc vl vn vw:Value} {st:St} {X:Nat} {x:zx} (hR:Rd w R mb rb vc vl vn vw st) (hX: ¬GJ R mb vc vl vn vw X) (hx:zT w X x) (s:ByteArray) (hs:s.size≤100000) (i:Nat) (v:Int) (hr:Zr s.data.toList=none) (hv:kQ s.data.toList=some v):
  Calls Tp 141 #[Y (V ⟨R,0,O⟩),Y (V ⟨X,0,O⟩),E Z 5, .string s,E Z i] w (VB w R mb rb vc vl vn vw st X { x with b:= -1,v:=v} none i):=by
 exact J55
theorem a15.Q27 (h:zP:=by
 clear hm;generalize (Zr s.data.toList).isSome=b;exact J86):zP:=h
theorem a15.Q55 (h:zP:=by
 have aD:=Y0 (Vr (i:=i) hR hX (hx.zaC v) (zJ w X 4 _));have aG:=Y0 (Vk s (i:Int) v hv);clear hR hX hx hs hv;exact J27):zP:=h
open a15 in
theorem zhl {w:World} {R mb rb:Nat} {vc vl vn vw:Value} {st:St} {X:Nat} {x:zx} (hR:Rd w R mb rb vc vl vn vw st) (hX: ¬GJ R mb vc vl vn vw X) (hx:zT w X x) (s:ByteArray) (hs:s.size≤100000) (i:Nat) (v:Int) (hv:kQ s.data.toList=some v):
  Calls Tp 141 #[Y (V ⟨R,0,O⟩),Y (V ⟨X,0,O⟩),E Z 7, .string s,E Z i] w (VB w R mb rb vc vl vn vw st X { x with v:=v} none i):=by
 exact J55
theorem a16.Q27 (h:zP:=by
 clear hm;generalize (Zr s.data.toList).isSome=b;go_wp2_with fail;refine dR.out.mono ?_;rintro e w' ⟨rfl,h1,h2⟩;have HF:=Y0 (aD.out w' h1 h2);clear h1 h2;go_wp2;go_ret;exact HF.out):zP:=h
theorem a16.Q55 (h:zP:=by
 have dR:=Y0 (ziD X x y s (i:Int) w hx hy Y1);have aD:Hid (∀w',zT w' X y→Keeps (fun i=>i=X) w w'→VB w R mb rb vc vl vn vw st X y none i (.returned .nilIface) w'):=Y0 (fun w' h1 h2=>Vr hR hX h1 h2);clear hR hX hx hs hy;exact J27):zP:=h
open a16 in
theorem zeg {w:World} {R mb rb:Nat} {vc vl vn vw:Value} {st:St} {X:Nat} {x:zx} (hR:Rd w R mb rb vc vl vn vw st) (hX: ¬GJ R mb vc vl vn vw X) (hx:zT w X x) (s:ByteArray) (hs:s.size≤100000) (i:Nat) (y:zx) (hy:cellL x s.data.toList=some y):
  Calls Tp 141 #[Y (V ⟨R,0,O⟩),Y (V ⟨X,0,O⟩),E Z 6, .string s,E Z i] w (VB w R mb rb vc vl vn vw st X y none i):=by
 exact J55
theorem a17.Q27 (h:zP:=by
 clear hm;generalize (Zr s.data.toList).isSome=b;go_wp2_with fail;refine iQ.out.mono ?_;rintro e w' ⟨rfl,rfl⟩;rw[j6.out];exact J86):zP:=h
theorem a17.Q55 (h:zP:=by
 have aD:=Y0 (Vr (i:=i) hR hX (hx.zaC v) (zJ w X 4 _));have aG:=Y0 (Vk s (i:Int) v hv);have iQ:=Y0 (JZ s w Y1);have j6:=Y0 hn;clear hR hX hx hs hv hn;exact J27):zP:=h
open a17 in
theorem zci {w:World} {R mb rb:Nat} {vc vl vn vw:Value} {st:St} {X:Nat} {x:zx} (hR:Rd w R mb rb vc vl vn vw st) (hX: ¬GJ R mb vc vl vn vw X) (hx:zT w X x) (s:ByteArray) (hs:s.size≤100000) (i:Nat) (v:Int) (hn:ZC s.data.toList=false) (hv:kQ s.data.toList=some v):
  Calls Tp 141 #[Y (V ⟨R,0,O⟩),Y (V ⟨X,0,O⟩),E Z 9, .string s,E Z i] w (VB w R mb rb vc vl vn vw st X { x with v:=v} none i):=by
 exact J55
end Asm
end Go.Proofs.YtdlpmnmenhojfaaGreatDoor
