/- Part 10 of what the proof stands on: RefA, FdSc. -/
import Derived.Test.YtdlpmnmenhojfaaGreatDoorR03
import Derived.Test.YtdlpmnmenhojfaaGreatDoorR07
set_option linter.unusedVariables false
set_option maxHeartbeats 40000000
set_option maxRecDepth 100000
variable {zP:Prop}
namespace Go.Proofs.YtdlpmnmenhojfaaGreatDoor
open Go.IntKind renaming i64->Z,u64->J
open Go.Value renaming int->E,pointer->Y,slice->Sl
open Option renaming none->O,some->V
open Go.Obj renaming cells->Ce
open Go.Ending renaming returned->Rt
open Go.Proofs.Tryz renaming prog->Tp
namespace Asm
open Go.RowKit Go.Maps
def Kh (l:List (Nat×Nat×Str)):List Value:=l.flatMap fun p=> [E Z p.2.1,E Z p.1,vD p.2.2]
structure RP (w:World) (R rb:Nat) (vc vl vn vw:Value) (st:St) (ln:Nat):Prop where
 obj:w.heap[R]?=V (.cells #[vc,vl,vn,vw,E Z (ln:Int)] 103 (0,0))
 code:w.ownsRow rb 111 7 vc st.code.length (Ze st.code)
 labels:w.ownsRow rb 113 2 vl st.labels.length (ZO st.labels)
 lines:w.ownsRow rb 3 1 vn st.lines.length (kW st.lines)
 wants:w.ownsRow rb 109 3 vw st.wants.length (Kh st.wants)
def gI (R:Nat) (vc vl vn vw:Value) (k:Nat):Prop:=k=R∨vc.ownBlock=some k∨vl.ownBlock=some k∨vn.ownBlock=some k∨vw.ownBlock=some k
section
variable {w w':World} {R rb ln:Nat} {vc vl vn vw:Value} {st:St}
theorem RP.lt (h:RP w R rb vc vl vn vw st ln):R<w.heap.size:=(Array.getElem?_eq_some_iff.1 h.obj).1
theorem RP.cell (h:RP w R rb vc vl vn vw st ln):w.cell? ⟨R,0,O⟩=some vc∧w.cell? ⟨R,1,O⟩=some vl∧w.cell? ⟨R,2,O⟩=some vn∧w.cell? ⟨R,3,O⟩=some vw∧w.cell? ⟨R,4,O⟩=V (E Z (ln:Int))∧ ∀o,w.frozen? ⟨R,o,O⟩=false:=by
 exact zwP
theorem RP.of_lt (h:RP w R rb vc vl vn vw st ln) {k:Nat} (hk:gI R vc vl vn vw k):k<w.heap.size:=by
 rcases hk with rfl|hk|hk|hk|hk
 ·exact h.lt
 ·exact (h.code.lt k hk).2
 ·exact (h.labels.lt k hk).2
 ·exact (h.lines.lt k hk).2
 ·exact (h.wants.lt k hk).2
theorem RP.zk (h:RP w R rb vc vl vn vw st ln) (e: ∀k,gI R vc vl vn vw k→w'.heap[k]?=w.heap[k]?):RP w' R rb vc vl vn vw st ln:=
 ⟨(e R (Or.inl rfl)).trans h.obj,za h.code fun k hk=>e k (Or.inr (Or.inl hk)),za h.labels fun k hk=>e k (Or.inr (Or.inr (Or.inl hk))),za h.lines fun k hk=>e k (Or.inr (Or.inr (Or.inr (Or.inl hk)))),za h.wants fun k hk=>e k (Or.inr (Or.inr (Or.inr (Or.inr hk))))⟩
theorem RP.keeps {X:Nat→Prop} (h:RP w R rb vc vl vn vw st ln) (k:Keeps X w w') (hx: ∀i,gI R vc vl vn vw i→ ¬X i):RP w' R rb vc vl vn vw st ln:=
 h.zk fun i hi=>k.block i (h.of_lt hi) (hx i hi)
theorem RP.below (h:RP w R rb vc vl vn vw st ln) (k:Below w.heap.size w w'):RP w' R rb vc vl vn vw st ln:=h.zk fun i hi=>k.block i (h.of_lt hi)
theorem RP.vO (h:RP w R rb vc vl vn vw st ln):kP w R=103+2:=Vj h.obj
theorem a21.Q67 (h:zP:=by
 exact ⟨zy (hR2.trans h.obj) _,(za hr fun k hk=>Below.heap_setCell _ _ _ _ (hnR k hk)),(za (za h.labels fun k hk=>hg.block k (h.labels.lt k hk).2 (own_ne h.code (zI h.labels hk) Y2)) fun k hk=>Below.heap_setCell _ _ _ _ (zH (zI h.labels hk) h.vO Y2)),(za (za h.lines fun k hk=>hg.block k (h.lines.lt k hk).2 (own_ne h.code (zI h.lines hk) Y2)) fun k hk=>Below.heap_setCell _ _ _ _ (zH (zI h.lines hk) h.vO Y2)),(za (za h.wants fun k hk=>hg.block k (h.wants.lt k hk).2 (own_ne h.code (zI h.wants hk) Y2)) fun k hk=>Below.heap_setCell _ _ _ _ (zH (zI h.wants hk) h.vO Y2))⟩):zP:=h
open a21 in
theorem RP.zbn (h:RP w R rb vc vl vn vw st ln) {w2:World} {v':Value} (x:zx) (hg:w.grownBy w2 vc.ownBlock) (hr:w2.ownsRow rb 111 7 v' (st.code++ [x]).length (Ze (st.code++ [x]))):RP (w2.setCell ⟨R,0,O⟩ v') R rb v' vl vn vw { st with code:=st.code++ [x]} ln:=by
 have hR2:w2.heap[R]?=w.heap[R]?:=hg.block R h.lt (own_ne h.code h.vO Y2);exact J67
theorem a22.Q67 (h:zP:=by
 exact ⟨zy (hR2.trans h.obj) _,(za (za h.code fun k hk=>hg.block k (h.code.lt k hk).2 (own_ne h.labels (zI h.code hk) Y2)) fun k hk=>Below.heap_setCell _ _ _ _ (zH (zI h.code hk) h.vO Y2)),(za hr fun k hk=>Below.heap_setCell _ _ _ _ (hnR k hk)),(za (za h.lines fun k hk=>hg.block k (h.lines.lt k hk).2 (own_ne h.labels (zI h.lines hk) Y2)) fun k hk=>Below.heap_setCell _ _ _ _ (zH (zI h.lines hk) h.vO Y2)),(za (za h.wants fun k hk=>hg.block k (h.wants.lt k hk).2 (own_ne h.labels (zI h.wants hk) Y2)) fun k hk=>Below.heap_setCell _ _ _ _ (zH (zI h.wants hk) h.vO Y2))⟩):zP:=h
open a22 in
theorem RP.jA (h:RP w R rb vc vl vn vw st ln) {w2:World} {v':Value} (x:Str×Nat) (hg:w.grownBy w2 vl.ownBlock) (hr:w2.ownsRow rb 113 2 v' (st.labels++ [x]).length (ZO (st.labels++ [x]))):RP (w2.setCell ⟨R,1,O⟩ v') R rb vc v' vn vw { st with labels:=st.labels++ [x]} ln:=by
 have hR2:w2.heap[R]?=w.heap[R]?:=hg.block R h.lt (own_ne h.labels h.vO Y2);exact J67
theorem a23.Q67 (h:zP:=by
 exact ⟨zy (hR2.trans h.obj) _,(za (za h.code fun k hk=>hg.block k (h.code.lt k hk).2 (own_ne h.lines (zI h.code hk) Y2)) fun k hk=>Below.heap_setCell _ _ _ _ (zH (zI h.code hk) h.vO Y2)),(za (za h.labels fun k hk=>hg.block k (h.labels.lt k hk).2 (own_ne h.lines (zI h.labels hk) Y2)) fun k hk=>Below.heap_setCell _ _ _ _ (zH (zI h.labels hk) h.vO Y2)),(za hr fun k hk=>Below.heap_setCell _ _ _ _ (hnR k hk)),(za (za h.wants fun k hk=>hg.block k (h.wants.lt k hk).2 (own_ne h.lines (zI h.wants hk) Y2)) fun k hk=>Below.heap_setCell _ _ _ _ (zH (zI h.wants hk) h.vO Y2))⟩):zP:=h
open a23 in
theorem RP.Jy (h:RP w R rb vc vl vn vw st ln) {w2:World} {v':Value} (x:Nat) (hg:w.grownBy w2 vn.ownBlock) (hr:w2.ownsRow rb 3 1 v' (st.lines++ [x]).length (kW (st.lines++ [x]))):RP (w2.setCell ⟨R,2,O⟩ v') R rb vc vl v' vw { st with lines:=st.lines++ [x]} ln:=by
 have hR2:w2.heap[R]?=w.heap[R]?:=hg.block R h.lt (own_ne h.lines h.vO Y2);exact J67
theorem a24.Q67 (h:zP:=by
 exact ⟨zy (hR2.trans h.obj) _,(za (za h.code fun k hk=>hg.block k (h.code.lt k hk).2 (own_ne h.wants (zI h.code hk) Y2)) fun k hk=>Below.heap_setCell _ _ _ _ (zH (zI h.code hk) h.vO Y2)),(za (za h.labels fun k hk=>hg.block k (h.labels.lt k hk).2 (own_ne h.wants (zI h.labels hk) Y2)) fun k hk=>Below.heap_setCell _ _ _ _ (zH (zI h.labels hk) h.vO Y2)),(za (za h.lines fun k hk=>hg.block k (h.lines.lt k hk).2 (own_ne h.wants (zI h.lines hk) Y2)) fun k hk=>Below.heap_setCell _ _ _ _ (zH (zI h.lines hk) h.vO Y2)),(za hr fun k hk=>Below.heap_setCell _ _ _ _ (hnR k hk))⟩):zP:=h
open a24 in
theorem RP.JU (h:RP w R rb vc vl vn vw st ln) {w2:World} {v':Value} (x:Nat×Nat×Str) (hg:w.grownBy w2 vw.ownBlock) (hr:w2.ownsRow rb 109 3 v' (st.wants++ [x]).length (Kh (st.wants++ [x]))):RP (w2.setCell ⟨R,3,O⟩ v') R rb vc vl vn v' { st with wants:=st.wants++ [x]} ln:=by
 have hR2:w2.heap[R]?=w.heap[R]?:=hg.block R h.lt (own_ne h.wants h.vO Y2);exact J67
theorem RP.next (h:RP w R rb vc vl vn vw st ln):RP (w.setCell ⟨R,4,O⟩ (E Z ((ln:Int)+1))) R rb vc vl vn vw st (ln+1):=by
 have hb: ∀k,k≠R→(w.setCell ⟨R,4,O⟩ (E Z ((ln:Int)+1))).heap[k]?=w.heap[k]?:=fun k hk=>Below.heap_setCell _ _ _ _ hk;exact ⟨by have:=zy h.obj (k:=4) (E Z ((ln:Int)+1));simpa using this,za h.code fun k hk=>hb k (zH (zI h.code hk) h.vO Y2),za h.labels fun k hk=>hb k (zH (zI h.labels hk) h.vO Y2),za h.lines fun k hk=>hb k (zH (zI h.lines hk) h.vO Y2),za h.wants fun k hk=>hb k (zH (zI h.wants hk) h.vO Y2)⟩
theorem zhX {aN:Value} {W5:World} (ho: ∀k,aN.ownBlock=some k→vw.ownBlock=some k∨W5.heap.size≤k) {k:Nat} (h:gI R vc vl vn aN k):gI R vc vl vn vw k∨W5.heap.size≤k:=by
 rcases h with h|h|h|h|h
 ·exact Or.inl (Or.inl h)
 ·exact Or.inl (Or.inr (Or.inl h))
 ·exact Or.inl (Or.inr (Or.inr (Or.inl h)))
 ·exact Or.inl (Or.inr (Or.inr (Or.inr (Or.inl h))))
 ·rcases ho k h with h|h
  ·exact Or.inl (Or.inr (Or.inr (Or.inr (Or.inr h))))
  ·exact Or.inr h
end
end Asm
namespace Asm
open Go.RowKit
theorem zbd (c:Int) (h1:48≤c) (h2:c≤57) (w:World):
  Calls Tp 256 #[.int .u8 c] w fun e w'=>e=Rt (E J (c - 48))∧w=w':=by
 go_enter Tryz.func256,Tryz.ntmps256;go_wp2;go_ret;exact ⟨rfl,rfl⟩
theorem a25.Q37 (h:zP:=by
 by_cases h2:2≤s.size
 ·have iN:(2:Int)≤(s.size:Int):=Y1;have d1:=hdig 1 Y1;have hx:((s[1].toNat:Int)==120)=false:=beq_eq_false_iff_ne.2 Y1;clear h hd hl hv hlt h0 hdig;go_enter Tryz.func200,Tryz.ntmps200;go_upto_region 2 with fail;go_cut [22] (fun cc wx=>cc= .bool false∧w=wx);case first=>
   go_wp2_with fail;all_goals
    go_meet
    exact ⟨rfl,rfl⟩
  case rest=>
   obtain ⟨rfl,rfl⟩:=hcut;go_wp2;go_loop [7,8] (fun vv iv=> ∃k:Nat,k≤s.size∧iv=E Z k∧vv=E J (vZ (s.data.toList.take k))) (fun _ iv=>s.size - (intOf iv).toNat);case atStart=>exact ⟨0,by omega,rfl,rfl⟩
   case round=>
    obtain ⟨k,hk,rfl,rfl⟩:=hrel;have dL:(k:Int)≤(s.size:Int):=Y1;by_cases hlt:k<s.size
    ·exact J52
    exact zwv
 ·have iN:(s.size:Int)<2:=Y1;clear h hd hl hv hlt h0 hdig;go_enter Tryz.func200,Tryz.ntmps200;go_wp2;all_goals
   go_loop [7,8] (fun vv iv=> ∃k:Nat,k≤s.size∧iv=E Z k∧vv=E J (vZ (s.data.toList.take k))) (fun _ iv=>s.size - (intOf iv).toNat)
   case atStart=>exact ⟨0,by omega,rfl,rfl⟩
   case round=>
    obtain ⟨k,hk,rfl,rfl⟩:=hrel
    have dL:(k:Int)≤(s.size:Int):=Y1
    by_cases hlt:k<s.size
    ·have aH:(k:Int)<(s.size:Int):=Y1
     have DZ:(k:Int)<20:=Y1
     obtain ⟨d1,d2⟩:=FX.out k hlt
     have hb1:=oP.out (k+1)
     rw[BF s k hlt,Bj] at hb1
     have CF:Hid (vZ (s.data.toList.take (k+1))=vZ (s.data.toList.take k)*10+(s[k].toNat - 48)):=Y0 Y53
     obtain ⟨a,ha⟩: ∃a:Int,a=(vZ (s.data.toList.take k):Int):=⟨_,rfl⟩
     obtain ⟨c,hc⟩: ∃c:Int,c=(s[k].toNat:Int):=⟨_,rfl⟩
     have ha0:0≤a:=Y1
     have hab:a*10+(c - 48)<18446744073709551616:=Y1
     have HA:=Y0 ha
     have HC:=Y0 hc
     rw[←ha]
     have HD:=Y0 (zbd c Y1 Y1 w)
     have f1:decide ((20:Int)≤(k:Int))=false:=Y8
     have f0:decide ((10:Int)≤c - 48)=false:=Y8
     have f2:decide ((1844674407370955161:Int)<a)=false:=Y8
     have f3:decide (18446744073709551615 - (c - 48)<a*10)=false:=Y8
     have DC:48≤c:=Y1
     have DF:c≤57:=Y1
     have aD:Hid (a*10+(c - 48)=(vZ (s.data.toList.take (k+1)):Int)):=Y0 Y80
     clear hb1 ha d1 d2
     go_wp2_with fail
     rw[←hc]
     clear hc
     refine HD.out.mono ?_
     rintro e w' ⟨rfl,rfl⟩
     go_wp2
     go_round
     case rel=>first|exact ⟨k+1,by omega,by go_num,by rw[←aD.out]⟩ |((repeat apply Exists.intro);exact ⟨⟨k+1,by omega,by go_num,by rw[←aD.out]⟩,rfl⟩)
     case measure=>simp[intOf];omega
    ·obtain rfl:k=s.size:=Y1
     have aD:Hid ((vZ (s.data.toList.take s.size):Int)=v):=Y0 Y32
     go_wp2
     go_ret2
     first|exact ⟨rfl,rfl⟩ |exact ⟨by rw[←aD.out];rfl,rfl⟩):zP:=h
theorem a25.Q52 (h:zP:=by
 have HD:=Y0 (zbd c Y1 Y1 w);have f1:decide ((20:Int)≤(k:Int))=false:=Y8;have f0:decide ((10:Int)≤c - 48)=false:=Y8;have f2:decide ((1844674407370955161:Int)<a)=false:=Y8;have f3:decide (18446744073709551615 - (c - 48)<a*10)=false:=Y8;exact J51):zP:=h
open a25 in
theorem ziN (s:ByteArray) (v:Int) (h:kQ s.data.toList=some v) (w:World):
  Calls Tp 200 #[.string s] w fun e w'=>e=Rt (.tuple #[E J v,Y none])∧w=w':=by
 exact J37
theorem zuz (s:ByteArray) (n:Int) (w:World):Calls Tp 12 #[.string s,E Z n,Y none] w fun e w'=>e=Rt (Y none)∧w=w':=by
 go_enter Tryz.func12,Tryz.ntmps12;go_wp2;go_ret;exact ⟨rfl,rfl⟩
theorem vF (R:Nat) (n:Int) (s:ByteArray) (v:Int) (h:kQ s.data.toList=some v) (w:World) (hc:w.cell? ⟨R,4,O⟩=V (E Z n)):
  Calls Tp 135 #[Y (V ⟨R,0,O⟩), .string s] w fun e w'=>e=Rt (.tuple #[E J v,Y none])∧w=w':=by
 have H:=Y0 (ziN s v h w);clear h;go_enter Tryz.func135,Tryz.ntmps135;go_wp2_with fail;refine H.out.mono ?_;rintro e w' ⟨rfl,rfl⟩;go_wp2_with fail;refine (zuz _ _ _).mono ?_;rintro e w' ⟨rfl,rfl⟩;go_wp2;go_ret2;exact ⟨rfl,rfl⟩
def zjQ (s:Str) (w:World) (e:Ending) (w':World):Prop:= ∃n:Int,e=Rt (.tuple #[E Z n, .bool (Zr s).isSome])∧(∀r,Zr s=some r→n=r)∧ ∃q,w'=w.drewN q
theorem zrS {s:Str} {w:World} (n:Int) (h:Zr s=none):zjQ s w (.returned (.tuple #[E Z n, .bool false])) w:=
 ⟨n,by rw[h];rfl,(fun r hr=>by rw[h] at hr;cases hr),0,rfl⟩
theorem zxl (s:ByteArray) (h:s.size=2):s.data.toList= [s[0]' Y1,s[1]' Y1]:=by
 refine List.ext_getElem? fun k=>?_
 match k with
 |0=>rw[ZY s 0 Y1];rfl
 |1=>rw[ZY s 1 Y1];rfl
 |k+2=>rw[List.getElem?_eq_none Y21];rfl
theorem zxQ (s:ByteArray) (h:s.size=3):s.data.toList= [s[0]' Y1,s[1]' Y1,s[2]' Y1]:=by
 refine List.ext_getElem? fun k=>?_
 match k with
 |0=>rw[ZY s 0 Y1];rfl
 |1=>rw[ZY s 1 Y1];rfl
 |2=>rw[ZY s 2 Y1];rfl
 |k+3=>rw[List.getElem?_eq_none Y21];rfl
theorem zyI (a b:UInt8):Zr [a,b]=if a=114∧isDigit b=true then some ((b.toNat - 48:Nat):Int) else none:=by
 unfold Zr;by_cases h:a=114∧isDigit b=true
 ·have:=(ZX b).1 h.2;rw[if_pos h,if_pos]
  ·simp[vZ]
  ·refine ⟨Or.inl rfl,by rw[←h.1];rfl,by simp,by simp[h.2],?_⟩;simp[vZ];omega
 ·rw[if_neg h,if_neg];intro h2;refine h ⟨Option.some.inj h2.2.1,?_⟩;have:=h2.2.2.2.1;simpa using this
theorem zw2 (a b c:UInt8):Zr [a,b,c]=if a=114∧49≤b.toNat∧b.toNat≤51∧isDigit c=true∧(b.toNat - 48)*10+(c.toNat - 48)<32 then some (((b.toNat - 48)*10+(c.toNat - 48):Nat):Int) else none:=by
 unfold Zr;by_cases h:a=114∧49≤b.toNat∧b.toNat≤51∧isDigit c=true∧(b.toNat - 48)*10+(c.toNat - 48)<32
 ·rw[if_pos h,if_pos]
  ·simp[vZ]
  ·obtain ⟨h1,h2,h3,h4,h5⟩:=h;refine ⟨Or.inr rfl,by rw[←h1];rfl,?_,?_,?_⟩
   ·rintro ⟨_,hb⟩;have:b=48:=Option.some.inj hb;rw[this] at h2;exact absurd h2 Y2
   ·have hb:isDigit b=true:=(ZX b).2 Y1;simp[hb,h4]
   ·simp[vZ];exact h5
 ·rw[if_neg h,if_neg];rintro ⟨_,h1,h2,h3,h4⟩;have hd:isDigit b=true∧isDigit c=true:=by simpa using h3
  have hb:=(ZX b).1 hd.1;have hc:=(ZX c).1 hd.2;have hv:(b.toNat - 48)*10+(c.toNat - 48)<32:=by simpa[vZ] using h4
  have hne:b≠48:=fun e=>h2 ⟨rfl,by rw[e];rfl⟩;have hne':b.toNat≠48:=fun e=>hne (by rw[←UInt8.toNat_inj];exact e);exact h ⟨Option.some.inj h1,by omega,by omega,hd.2,hv⟩
theorem kC (s:ByteArray) (w:World) (hs:s.size≤9223372036854775807):Calls Tp 131 #[.string s] w (zjQ s.data.toList w):=by
 have hsI:(s.size:Int)≤9223372036854775807:=Y1;clear hs;by_cases h2:s.size=2
 ·have hl:=zxl s h2;have qK:0<s.size:=Y1;have uy:1<s.size:=Y1;have hr:=zyI (s[0]'qK) (s[1]'uy);rw[←hl] at hr;have t1:((s.size:Int)==2)=true:=beq_iff_eq.2 Y1;have t2:((s.size:Int)==3)=false:=beq_eq_false_iff_ne.2 Y1;have ou:(2:Int)≤(s.size:Int):=Y1;clear hl h2;by_cases ha:s[0]'qK=114;case neg=>
   rw[if_neg (fun h=>ha h.1)] at hr;have HR:=Y0 hr;have t3:(((s[0]'qK).toNat:Int)==114)=false:=beq_eq_false_iff_ne.2 (fun e=>ha ((Zx _ 114).1 e));clear hr ha;exact J28
  have t3:(((s[0]'qK).toNat:Int)==114)=true:=beq_iff_eq.2 ((Zx _ 114).2 ha);by_cases hd:isDigit (s[1]'uy)=true
  ·obtain ⟨d1,d2⟩:=(ZX _).1 hd;rw[if_pos ⟨ha,hd⟩] at hr;have HR:=Y0 hr;have t4:decide ((48:Int)≤((s[1]'uy).toNat:Int))=true:=decide_eq_true d1;have t5:decide (((s[1]'uy).toNat:Int)≤(57:Int))=true:=decide_eq_true d2;have HE:Hid (((s[1]'uy).toNat:Int) - (48:Int)=(((s[1]'uy).toNat - 48:Nat):Int)):=Y0 Y1;clear hr ha hd;go_enter Tryz.func131,Tryz.ntmps131;go_wp2;go_ret2;exact ⟨((s[1]'uy).toNat:Int) - (48:Int),by rw[HR.out];rfl,(fun r h=>by rw[HR.out] at h;rw[HE.out];exact Option.some.inj h),0,rfl⟩
  ·rw[if_neg (fun h=>hd h.2)] at hr;have HR:=Y0 hr;have hnd: ¬((48:Int)≤((s[1]'uy).toNat:Int)∧((s[1]'uy).toNat:Int)≤(57:Int)):=fun h=>hd ((ZX _).2 h);clear hr ha hd;by_cases x1:(48:Int)≤((s[1]'uy).toNat:Int)
   ·have t4:decide ((48:Int)≤((s[1]'uy).toNat:Int))=true:=decide_eq_true x1;have t5:decide (((s[1]'uy).toNat:Int)≤(57:Int))=false:=decide_eq_false Y1;clear hnd x1;exact J28
   ·have t4:decide ((48:Int)≤((s[1]'uy).toNat:Int))=false:=decide_eq_false x1;clear hnd x1;exact J28
 have t1:((s.size:Int)==2)=false:=beq_eq_false_iff_ne.2 Y1;by_cases h3:s.size=3;case neg=>
  have hr:Zr s.data.toList=none:=by unfold Zr;rw[if_neg];rw[zL];omega
  have HR:=Y0 hr;have t2:((s.size:Int)==3)=false:=beq_eq_false_iff_ne.2 Y1;clear hr h3;exact J28
 have hl:=zxQ s h3;have qK:0<s.size:=Y1;have uy:1<s.size:=Y1;have h2s:2<s.size:=Y1;have hr:=zw2 (s[0]'qK) (s[1]'uy) (s[2]'h2s);rw[←hl] at hr;have t2:((s.size:Int)==3)=true:=beq_iff_eq.2 Y1;have ou:(3:Int)≤(s.size:Int):=Y1;clear hl h3 h2;by_cases ha:s[0]'qK=114;case neg=>
  rw[if_neg (fun h=>ha h.1)] at hr;have HR:=Y0 hr;have t3:(((s[0]'qK).toNat:Int)==114)=false:=beq_eq_false_iff_ne.2 (fun e=>ha ((Zx _ 114).1 e));clear hr ha;exact J28
 have t3:(((s[0]'qK).toNat:Int)==114)=true:=beq_iff_eq.2 ((Zx _ 114).2 ha);by_cases x1:(49:Int)≤((s[1]'uy).toNat:Int);case neg=>
  rw[if_neg (fun h=>x1 Y1)] at hr;have HR:=Y0 hr;have t4:decide ((49:Int)≤((s[1]'uy).toNat:Int))=false:=decide_eq_false x1;clear hr ha x1;exact J28
 have t4:decide ((49:Int)≤((s[1]'uy).toNat:Int))=true:=decide_eq_true x1;by_cases x2:((s[1]'uy).toNat:Int)≤(51:Int);case neg=>
  rw[if_neg (fun h=>x2 Y1)] at hr;have HR:=Y0 hr;have t5:decide (((s[1]'uy).toNat:Int)≤(51:Int))=false:=decide_eq_false x2;clear hr ha x1 x2;exact J28
 have t5:decide (((s[1]'uy).toNat:Int)≤(51:Int))=true:=decide_eq_true x2;by_cases hd:isDigit (s[2]'h2s)=true;case neg=>
  rw[if_neg (fun h=>hd h.2.2.2.1)] at hr;have HR:=Y0 hr;have hnd: ¬((48:Int)≤((s[2]'h2s).toNat:Int)∧((s[2]'h2s).toNat:Int)≤(57:Int)):=fun h=>hd ((ZX _).2 h);clear hr ha hd x1 x2;by_cases x1:(48:Int)≤((s[2]'h2s).toNat:Int)
  ·have t6:decide ((48:Int)≤((s[2]'h2s).toNat:Int))=true:=decide_eq_true x1;have t7:decide (((s[2]'h2s).toNat:Int)≤(57:Int))=false:=decide_eq_false Y1;clear hnd x1;exact J28
  ·have t6:decide ((48:Int)≤((s[2]'h2s).toNat:Int))=false:=decide_eq_false x1;clear hnd x1;exact J28
 obtain ⟨d1,d2⟩:=(ZX _).1 hd;have t6:decide ((48:Int)≤((s[2]'h2s).toNat:Int))=true:=decide_eq_true d1;have t7:decide (((s[2]'h2s).toNat:Int)≤(57:Int))=true:=decide_eq_true d2;have HX:Hid ((Zr s.data.toList).isSome=decide (10* (((s[1]'uy).toNat:Int) - (48:Int))+(((s[2]'h2s).toNat:Int) - (48:Int))<32)∧ ∀r,Zr s.data.toList=some r→10* (((s[1]'uy).toNat:Int) - (48:Int))+(((s[2]'h2s).toNat:Int) - (48:Int))=r):=Y0 (by
  by_cases hv:((s[1]'uy).toNat - 48)*10+((s[2]'h2s).toNat - 48)<32
  ·rw[hr,if_pos ⟨ha,by omega,by omega,hd,hv⟩]
   exact ⟨(decide_eq_true Y1).symm,fun r h=>by have:=Option.some.inj h;omega⟩
  ·rw[hr,if_neg (fun h=>hv h.2.2.2.2)]
   exact ⟨(decide_eq_false Y1).symm,fun r h=>by cases h⟩)
 clear hr ha hd;go_enter Tryz.func131,Tryz.ntmps131;go_wp2;go_quiet (fail);go_wp2;go_ret2;exact ⟨_,by rw[HX.out.1];rfl,HX.out.2,_,rfl⟩
theorem a26.Q40 (h:zP:=by
 go_enter Tryz.func69,Tryz.ntmps69;go_wp2;go_loop [3] (fun iv=> ∃k:Nat,k≤s.size∧iv=E Z k∧Hid (∀j (hj:j<s.size),j<k→isName s[j]=true)) (fun iv=>s.size - (intOf iv).toNat);case atStart=>exact ⟨0,by omega,rfl,Y0 (fun j _ h=>by omega)⟩
 case round=>
  obtain ⟨k,hk,rfl,HD⟩:=hrel;have dL:(k:Int)≤(s.size:Int):=Y1;by_cases hlt:k<s.size
  ·have aH:(k:Int)<(s.size:Int):=Y1;by_cases hdg:isName s[k]=true
   ·have cu:Hid (∀j (hj:j<s.size),j<k+1→isName s[j]=true):=Y0 (fun j hj h2=>by
     by_cases e:j=k
     ·subst e;exact hdg
     ·exact HD.out j hj Y1)
    have hor:=(zbR _).1 hdg;clear hdg;rcases hor with ⟨d1,d2⟩ |⟨d1,d2⟩
    ·have c1:decide ((97:Int)≤(s[k].toNat:Int))=true:=decide_eq_true Y1;have c2:decide ((s[k].toNat:Int)≤(122:Int))=true:=decide_eq_true Y1;exact J76
    ·have c1:decide ((97:Int)≤(s[k].toNat:Int))=false:=decide_eq_false Y1;have c2:decide ((48:Int)≤(s[k].toNat:Int))=true:=decide_eq_true Y1;have c3:decide ((s[k].toNat:Int)≤(57:Int))=true:=decide_eq_true Y1;exact J76
   ·exact zwV
  ·obtain rfl:k=s.size:=Y1
   have hfin:=rE.out (fun j hj=>HD.out j hj hj)
   have HF:=Y0 hfin
   clear hfin
   go_wp2_with fail
   refine oV.out.mono ?_
   rintro e w' ⟨n,rfl,_,q,rfl⟩
   cases hr:Zr s.data.toList with
   |none=>
    have HR:=Y0 hr;clear hr;simp only[Option.isSome_none];go_wp2;go_ret;exact ⟨by rw[HF.out,HR.out];rfl,q,rfl⟩
   |some r=>
    have HR:=Y0 hr;clear hr;simp only[Option.isSome_some];go_wp2;go_ret;exact ⟨by rw[HF.out,HR.out];rfl,q,rfl⟩):zP:=h
theorem a26.zxU (h:zP:=by
 by_cases h3:zcT (s[0]'qK)=true;case neg=>
  exact zxm
 exact J40):zP:=h
theorem a26.zxj (h:zP:=by
 by_cases hlo:((s[0]'qK).toNat:Int)<97
 ·clear hnd;exact J68
 ·have hhi:(122:Int)<((s[0]'qK).toNat:Int):=Y1;clear hnd;exact J68):zP:=h
theorem a26.zwe (h:zP:=by
 by_cases x1:(s[k].toNat:Int)<97
 ·have c1:decide ((97:Int)≤(s[k].toNat:Int))=false:=decide_eq_false Y1;by_cases x2:(s[k].toNat:Int)<48
  ·have c2:decide ((48:Int)≤(s[k].toNat:Int))=false:=decide_eq_false Y1;clear hnd x1 x2;go_wp2;go_ret;exact ⟨by rw[HR.out];rfl,0,rfl⟩
  ·have c2:decide ((48:Int)≤(s[k].toNat:Int))=true:=decide_eq_true Y1;have c3:decide ((s[k].toNat:Int)≤(57:Int))=false:=decide_eq_false Y1;clear hnd x1 x2;go_wp2;go_ret;exact ⟨by rw[HR.out];rfl,0,rfl⟩
 ·have c1:decide ((97:Int)≤(s[k].toNat:Int))=true:=decide_eq_true Y1;have c4:decide ((s[k].toNat:Int)≤(122:Int))=false:=decide_eq_false Y1;have c2:decide ((48:Int)≤(s[k].toNat:Int))=true:=decide_eq_true Y1;have c3:decide ((s[k].toNat:Int)≤(57:Int))=false:=decide_eq_false Y1;clear hnd x1;go_wp2;go_ret;exact ⟨by rw[HR.out];rfl,0,rfl⟩):zP:=h
open a26 in
theorem JA (s:ByteArray) (w:World) (hs:s.size≤9223372036854775807):Calls Tp 69 #[.string s] w fun e w'=>e=Rt (.bool (ZC s.data.toList))∧ ∃q,w'=w.drewN q:=by
 have oV:=Y0 (kC s w hs);have hsI:(s.size:Int)≤9223372036854775807:=Y1;clear hs;by_cases h1:s.size<1
 ·have hr:ZC s.data.toList=false:=by unfold ZC;rw[decide_eq_false Y21];rfl
  have ou:(s.size:Int)<1:=Y1;rw[hr];clear hr;exact J68
 by_cases h2:16<s.size
 ·have hr:ZC s.data.toList=false:=by unfold ZC;rw[decide_eq_false Y21];rfl
  have ou:(1:Int)≤(s.size:Int):=Y1;have iN:(16:Int)<(s.size:Int):=Y1;rw[hr];clear hr;exact J68
 exact zxa
theorem ztw: ∀(l:Str) (k:Nat) (hk:k<l.length),l[k]=43→(∀j (hj:j<l.length),j<k→l[j]≠43)→Lib.indexByte l 43=k
 |[],k,hk,_,_=>absurd hk Y7
 |c::l,0,_,h,_=>by
  have:c=43:=h
  subst this
  simp[Lib.indexByte]
 |c::l,k+1,hk,h,hj=>by
  have h0:=hj 0 Y7 Y1
  have hb:(c==43)=false:=by simpa using h0
  have ih:=ztw l k Y49 h (fun j hj1 hj2=>hj (j+1) Y8 Y1)
  have hne:((k:Int)== -1)=false:=by rw[beq_eq_false_iff_ne];omega
  simp[Lib.indexByte,hb,ih]
theorem ztI: ∀(l:Str),(∀j (hj:j<l.length),l[j]≠43)→Lib.indexByte l 43= -1
 |[],_=>rfl
 |c::l,h=>by
  have h0:=h 0 Y7
  have hb:(c==43)=false:=by simpa using h0
  have ih:=ztI l (fun j hj=>h (j+1) Y8)
  simp[Lib.indexByte,hb,ih]
def zj1 (w:World) (X:Nat) (y:zx) (e:Ending) (w':World):Prop:=e=Rt (Y none)∧zT w' X y∧Keeps (fun i=>i=X) w w'
theorem zkQ (R X:Nat) (x y:zx) (s:ByteArray) (n:Int) (w:World) (hR:w.cell? ⟨R,4,O⟩=V (E Z n)) (hx:zT w X x) (h:cellL x s.data.toList=some y) (hs:s.size≤1000000):
  Calls Tp 134 #[Y (V ⟨R,0,O⟩), .string s,Y (V ⟨X,0,O⟩)] w (zj1 w X y):=by
 have hin: ∃T,jg s.data.toList=some T:=by
  unfold cellL at h
  cases hi:jg s.data.toList with
  |none=>rw[hi] at h;cases h
  |some T=>exact ⟨T,rfl⟩
 obtain ⟨T,hT⟩:=hin;have hc:2≤s.size∧s.data.toList.head?=some 91∧s.data.toList.getLast?=some 93∧T=(s.data.toList.drop 1).dropLast:=by
  unfold jg at hT;split at hT
  ·rename_i hh;exact ⟨by rw[←zL];exact hh.1,hh.2.1,hh.2.2,(Option.some.inj hT).symm⟩
  ·cases hT
 obtain ⟨h2,hh,hl,rfl⟩:=hc;have qK:0<s.size:=Y1;have uy:s.size - 1<s.size:=Y1;have b0:(((s[0]'qK).toNat:Int) !=91)=false:=by
  rw[Bt s qK] at hh;rw[bne_eq_false_iff_eq];exact (Zx _ 91).2 (Option.some.inj hh)
 have b1:(((s[s.size - 1]'uy).toNat:Int) !=93)=false:=by
  rw[List.getLast?_eq_getElem?,zL,ZY s _ uy] at hl;rw[bne_eq_false_iff_eq];exact (Zx _ 93).2 (Option.some.inj hl)
 obtain ⟨t,ht⟩: ∃t,t=s.extract 1 (s.size - 1):=⟨_,rfl⟩;have htl:t.data.toList=(s.data.toList.drop 1).dropLast:=by
  rw[ht,Zj,List.dropLast_eq_take,List.length_drop,zL]
 have htz:t.size=s.size - 2:=by rw[←zL t,htl,List.length_dropLast,List.length_drop,zL];omega
 have hsI:(s.size:Int)≤1000000:=Y1;have iN:(2:Int)≤(s.size:Int):=Y1;have htb:t.size≤9223372036854775807:=Y1;unfold cellL at h;rw[hT] at h;rw[←htl] at h;dsimp only at h;have aX:=Y0 (kC t w htb);have HT:=Y0 ht;have ML:(t.size:Int)≤1000000:=Y1;have rD:=Y0 htb;have HX:=Y0 hx;have HR:=Y0 hR;have HH:=Y0 h;clear h hx hT hh hl ht htl htz htb h2 hR;go_enter Tryz.func134,Tryz.ntmps134;go_upto_block 0 with fail;rw[←HT.out];go_cut [7] (fun pv wx=>pv=E Z (Lib.indexByte t.data.toList 43)∧w=wx);case first=>
  go_wp2_with fail;go_loop [7,8] (fun pv iv=> ∃k:Nat,k≤t.size∧iv=E Z k∧((pv=E Z (-1)∧Hid (∀j (hj:j<t.size),j<k→t[j]≠43))∨ ∃j:Nat,pv=E Z (j:Int)∧k=j+1∧Hid (Lib.indexByte t.data.toList 43=j))) (fun _ iv=>t.size - (intOf iv).toNat);case atStart=>exact ⟨0,by omega,rfl,Or.inl ⟨rfl,Y0 fun _ _ h=>by omega⟩⟩
  case round=>
   obtain ⟨k,hk,rfl,⟨rfl,HN⟩ |⟨j,rfl,rfl,HJ⟩⟩:=hrel
   ·have dL:(k:Int)≤(t.size:Int):=Y1;by_cases hlt:k<t.size
    ·have aH:(k:Int)<(t.size:Int):=Y1;by_cases h43:t[k]=43
     ·have hb:((t[k].toNat:Int)==43)=true:=by rw[beq_iff_eq];exact (Zx _ 43).2 h43
      have HJ:Hid (Lib.indexByte t.data.toList 43=k):=Y0 (ztw _ k Y63 h43 (fun j hj h=>HN.out j Y82 h));clear h43;go_wp2;go_round;case rel=>exact ⟨k+1,by omega,by go_num,Or.inr ⟨k,rfl,rfl,HJ⟩⟩
      case measure=>simp[intOf];omega
     ·have hb:((t[k].toNat:Int)==43)=false:=by rw[beq_eq_false_iff_ne];intro e;exact h43 ((Zx _ 43).1 e)
      have Hy:Hid (∀j (hj:j<t.size),j<k+1→t[j]≠43):=Y0 (fun j hj h=>by
       by_cases e:j=k
       ·subst e;exact h43
       ·exact HN.out j hj Y1)
      clear h43;go_wp2;go_round;case rel=>exact ⟨k+1,by omega,by go_num,Or.inl ⟨rfl,Hy⟩⟩
      case measure=>simp[intOf];omega
    ·obtain rfl:k=t.size:=Y1;have HF:Hid (Lib.indexByte t.data.toList 43= -1):=Y0 (ztI _ (fun j hj=>HN.out j Y82 Y82));go_wp2_with fail;go_meet;exact ⟨by rw[HF.out],rfl⟩
   ·have hj0:(0:Int)≤(j:Int):=Y1;have hd:decide ((j:Int)<0)=false:=decide_eq_false Y1;have dL:(j:Int)+1≤(t.size:Int):=Y1;go_wp2_with fail;all_goals
     go_meet
     exact ⟨by rw[HJ.out],rfl⟩
 case rest=>
  obtain ⟨rfl,hwc⟩:=hcut
  subst hwc
  go_wp2_with fail
  refine aX.out.mono ?_
  rintro e w1 ⟨m,rfl,hm,q,hw1⟩
  have hx1:zT w1 X x:=Y48
  have hK1:Keeps (fun i=>i=X) w w1:=Y25
  have OT:w1.cell? ⟨R,4,O⟩=V (E Z n):=by rw[hw1];exact HR.out
  clear hw1 aX
  obtain ⟨o0,o1,o2,o3,o4,o5,o6,of⟩:=hx1.cell
  have hlt:=hx1.lt
  have h:=HH.out
  cases hr:Zr t.data.toList with
  |some r=>
   rw[hr] at h;obtain rfl:=Option.some.inj h;have HF:=Y0 (hx1.Je r);have HK:=Y0 (hK1.trans (zJ w1 X 2 (E Z r)) (fun _ h=>Or.inl h));obtain rfl:=hm r hr;clear h hr hm hx1 hK1 HH;simp only[Option.isSome_some];go_wp2;go_ret;exact ⟨rfl,HF.out,HK.out⟩
  |none=>
   rw[hr] at h
   dsimp only at h
   clear hm
   simp only[Option.isSome_none]
   cases hp:Vs t.data.toList with
   |none=>
    rw[hp] at h;dsimp only at h;obtain ⟨v,hv,rfl⟩:=Option.map_eq_some_iff.1 h;have HF:=Y0 ((hx1.Je (-1)).zaC v);have HK:=Y0 ((hK1.trans (zJ w1 X 2 (E Z (-1))) (fun _ h=>Or.inl h)).trans (zJ _ X 4 (E J v)) (fun _ h=>Or.inl h));have oN:Hid (Lib.indexByte t.data.toList 43= -1):=Y0 (JI hp);have aG:=Y0 (vF R n t v hv w1 OT);clear h hr hx1 hK1 hp hv HH;rw[oN.out];go_wp2_with fail;refine aG.out.mono ?_;rintro e w3 ⟨rfl,rfl⟩;go_wp2;go_ret;exact ⟨rfl,HF.out,HK.out⟩
   |some pq=>
    obtain ⟨p,q⟩:=pq;rw[hp] at h;dsimp only at h;obtain ⟨hix,iJ⟩:=JW hp;have MH: ∃r v,Zr p=some r∧kQ q=some v∧y={ x with b:=r,v:=v}:=by
     cases nI:Zr p with
     |none=>rw[nI] at h;cases h
     |some r=>
      cases qj:kQ q with
      |none=>rw[nI,qj] at h;cases h
      |some v=>rw[nI,qj] at h;exact ⟨r,v,rfl,rfl,(Option.some.inj h).symm⟩
    obtain ⟨r,v,nI,qj,rfl⟩:=MH;obtain ⟨k,hk⟩: ∃k,k=p.length:=⟨_,rfl⟩;have qg:t.size=k+1+q.length:=by rw[←zL t,iJ,List.length_append,List.length_cons,hk];omega
    obtain ⟨P,hP⟩: ∃P,P=t.extract 0 k:=⟨_,rfl⟩;obtain ⟨Q,hQ⟩: ∃Q,Q=t.extract (k+1) t.size:=⟨_,rfl⟩;have qL:P.data.toList=p:=by rw[hP,Zj,iJ,hk];simp
    have Dr:Q.data.toList=q:=by
     rw[hQ,Zj,iJ,hk,qg,hk];rw[show p++43::q=(p++ [43])++q by simp,List.drop_left' Y7,List.take_of_length_le Y1]
    have Lp:P.size=k:=by rw[←zL P,qL,hk]
    have oN:Hid (Lib.indexByte t.data.toList 43=(k:Int)):=Y0 (by rw[hk];exact hix);have Cz:Hid (Zr P.data.toList=some r):=Y0 (by rw[qL];exact nI);have oZ:=Y0 (kC P w1 Y1);have QA:=Y0 (show kQ Q.data.toList=some v by rw[Dr];exact qj);have HP:=Y0 hP;have HQ:=Y0 hQ;have IC:=Y0 hx1;have wL:=Y0 hK1;have hk1:(k:Int)+1≤(t.size:Int):=Y1;have hk2:k+1≤t.size:=Y1;have hk0:(0:Int)≤(k:Int):=Y1;have hd:decide ((0:Int)≤(k:Int))=true:=decide_eq_true Y1;clear h hr hp qj nI hk hP hQ qL Dr Lp hix iJ qg HH hx1 hK1;rw[oN.out];go_wp2_with fail;rw[←HP.out];refine oZ.out.mono ?_;rintro e w3 ⟨m2,rfl,hm2,q2,hw3⟩;obtain rfl:=hm2 r Cz.out;clear hm2;rw[Cz.out];simp only[Option.isSome_some];have hx3:zT w3 X x:=by rw[hw3];exact IC.out
    have hK3:Keeps (fun i=>i=X) w w3:=by rw[hw3];exact wL.out.drewN q2
    have pF:w3.cell? ⟨R,4,O⟩=V (E Z n):=by rw[hw3];exact OT
    clear hw3 o0 o1 o2 o3 o4 o5 o6 of hlt;obtain ⟨o0,o1,o2,o3,o4,o5,o6,of⟩:=hx3.cell;have hlt:=hx3.lt;have aG:=Y0 (vF R n Q v QA.out w3 pF);have HF:=Y0 ((hx3.Je m2).zaC v);have HK:=Y0 ((hK3.trans (zJ w3 X 2 (E Z m2)) (fun _ h=>Or.inl h)).trans (zJ _ X 4 (E J v)) (fun _ h=>Or.inl h));clear hx3 hK3;go_wp2_with fail;rw[←HQ.out];refine aG.out.mono ?_;rintro e w4 ⟨rfl,rfl⟩;go_wp2;go_ret;exact ⟨rfl,HF.out,HK.out⟩
theorem jX {w:World} {p:Addr} {v:Value} (h:w.cell? p=some v):p.block<w.heap.size:=by
 exact zwW
def Vl (x:zx) (t:Str):Str×Int:=if endsWith t [61,48] then (t.take (t.length - 2),1) else if endsWith t [62,48] then (t.take (t.length - 2),2) else (t,x.w)
theorem zhK {x y:zx} {s:Str} (h:Gb x s=some y): ∃c t v,s=c::t∧kQ (Vl x t).1=some v∧1≤v∧v≤99∧y={ x with w:=(Vl x t).2,m:=v}:=by
 cases s with
 |nil=>cases h
 |cons c t=>
  simp only[Gb] at h
  change (match kQ (Vl x t).1 with|none=>none|some v=>if v<1∨99<v then none else some { x with w:=(Vl x t).2,m:=v})=some y at h
  split at h
  ·cases h
  ·rename_i v hv
   split at h
   ·cases h
   ·exact ⟨c,t,v,rfl,hv,by omega,by omega,(Option.some.inj h).symm⟩
theorem zbx (l:Str) (a b:UInt8):endsWith l [a,b]=(decide (2≤l.length)&& (l.drop (l.length - 2)== [a,b])):=by
 unfold endsWith;rw[Bool.eq_iff_iff,List.isSuffixOf_iff_suffix];simp only[Bool.and_eq_true,decide_eq_true_eq,beq_iff_eq];constructor
 ·rintro ⟨p,rfl⟩;simp
 ·rintro ⟨h1,h2⟩;exact ⟨l.take (l.length - 2),by rw[←h2,List.take_append_drop]⟩
theorem zkk (s:ByteArray) (h1:(2:Int)≤(s.size:Int)) (w:World):
  (Instr.slice 9 (.string s) none (some (E Z ((s.size:Int) - 2))) none).run Tp w= .ok (.string (s.extract 0 (s.size - 2))) w:=by
 have e1:((s.size:Int) - 2).toNat=s.size - 2:=Y1;have h2:(0:Int)≤(s.size:Int) - 2:=Y1;have h3:(s.size:Int) - 2≤(s.size:Int):=Y1;have hb: ∀code,(Instr.sliceBound (E Z ((s.size:Int) - 2)) s.size code).run Tp w= .ok (s.size - 2) w:=by
  intro code;rw[run_sliceBound _ _ _ _ _ h2 h3,e1]
 simp[Instr.slice,run_underlying Tryz.underlying9,Instr.sliceBounds,hb,go_sem]
theorem zmt (R X:Nat) (x y:zx) (s:ByteArray) (n:Int) (w:World) (hRX:R≠X) (hR:w.cell? ⟨R,4,O⟩=V (E Z n)) (hx:zT w X x) (h:Gb x s.data.toList=some y) (hs:s.size≤1000000):
  Calls Tp 74 #[Y (V ⟨R,0,O⟩), .string s,Y (V ⟨X,0,O⟩)] w (zj1 w X y):=by
 obtain ⟨c,tl,v,hsl,hv,hv1,hv2,rfl⟩:=zhK h;have h1:1≤s.size:=by rw[←zL,hsl];simp
 have ou:(1:Int)≤(s.size:Int):=Y1;have hsI:(s.size:Int)≤1000000:=Y1;obtain ⟨t,ht⟩: ∃t,t=s.extract 1 s.size:=⟨_,rfl⟩;have htl:t.data.toList=tl:=by rw[ht,Zj,hsl,List.drop_one,List.tail_cons,List.take_of_length_le (by rw[←zL,hsl];simp)]
 have htz:t.size=s.size - 1:=by rw[←zL t,htl,←zL s,hsl];simp
 have ML:(t.size:Int)≤1000000:=Y1;have HT:=Y0 ht;have hex: ∀(a b:UInt8),2≤t.size→((t.extract (t.size - 2) t.size).toList== [a,b])=endsWith tl [a,b]:=by
  intro a b h2;rw[zbx,ZF,Zj,htl,decide_eq_true Y77,Bool.true_and,show t.size=tl.length by rw[←zL t,htl]];congr 1;rw[List.take_of_length_le Y7]
 have hd1:decide (v<1)=false:=decide_eq_false Y1;have hd2:decide (99<v)=false:=decide_eq_false Y1;obtain ⟨o0,o1,o2,o3,o4,o5,o6,of⟩:=hx.cell;have hlt:=hx.lt;by_cases h2:2≤t.size
 ·have iN:(2:Int)≤(t.size:Int):=Y1;have hd0:decide ((2:Int)≤(t.size:Int))=true:=decide_eq_true iN;obtain ⟨u,hu⟩: ∃u,u=t.extract 0 (t.size - 2):=⟨_,rfl⟩;have qh:u.data.toList=tl.take (tl.length - 2):=by rw[hu,Zj,List.drop_zero,htl,←zL t,htl,Nat.sub_zero]
  have q1:=hex 61 48 h2;have q2:=hex 62 48 h2;have hs2:=hs;by_cases c1:endsWith tl [61,48]=true
  ·rw[c1] at q1;clear q2 hex htz htl ht hsl h h1 hs h2 hs2;have hb:Vl x tl=(tl.take (tl.length - 2),1):=by unfold Vl;rw[if_pos c1]
   rw[hb] at hv ⊢;have hcut:=zkk t iN;have hwr:IntKind.i64.wrap ((t.size:Int) - 2)=(t.size:Int) - 2:=IntWalk.i64_in _ Y1;have aG:=Y0 (fun (W:World) (hW:W.cell? ⟨R,4,O⟩=V (E Z n))=>vF R n u v (by rw[qh];exact hv) W hW);have hx2:zT ((w.setCell ⟨X,6,O⟩ (E Z 1)).drew) X { x with w:=1}:=zT.setW (w:=w) hx 1;have hR2:((w.setCell ⟨X,6,O⟩ (E Z 1)).drew).cell? ⟨R,4,O⟩=V (E Z n):=(((zJ w X 6 (E Z 1)).cell (p:=⟨R,4,O⟩) (jX hR) hRX)).trans hR;have hK2:Keeps (fun i=>i=X) w ((w.setCell ⟨X,6,O⟩ (E Z 1)).drew):=(zJ w X 6 _).drew;have HU:=Y0 hu;have lC:=Y0 hx2;have dK:=Y0 hR2;have dP:=Y0 hK2;clear c1 hb hv qh hu hx hx2 hR2 hK2 hR;go_enter Tryz.func74,Tryz.ntmps74;go_upto_region 2 with fail;rw[←HT.out];go_wp2_with fail;go_region
   go_wp2_with fail;rw[←HU.out];generalize (w.setCell ⟨X,6,O⟩ (E Z 1)).drew=wq at lC dK dP ⊢;exact J84
  ·have c1':endsWith tl [61,48]=false:=by simpa using c1
   rw[c1'] at q1;by_cases c2:endsWith tl [62,48]=true
   ·rw[c2] at q2;clear hex htz htl ht hsl h h1 hs h2 hs2;have hb:Vl x tl=(tl.take (tl.length - 2),2):=by unfold Vl;rw[if_neg c1,if_pos c2]
    rw[hb] at hv ⊢;have hcut:=zkk t iN;have hwr:IntKind.i64.wrap ((t.size:Int) - 2)=(t.size:Int) - 2:=IntWalk.i64_in _ Y1;have aG:=Y0 (fun (W:World) (hW:W.cell? ⟨R,4,O⟩=V (E Z n))=>vF R n u v (by rw[qh];exact hv) W hW);have hx2:zT ((w.setCell ⟨X,6,O⟩ (E Z 2)).drew) X { x with w:=2}:=zT.setW (w:=w) hx 2;have hR2:((w.setCell ⟨X,6,O⟩ (E Z 2)).drew).cell? ⟨R,4,O⟩=V (E Z n):=(((zJ w X 6 (E Z 2)).cell (p:=⟨R,4,O⟩) (jX hR) hRX)).trans hR;have hK2:Keeps (fun i=>i=X) w ((w.setCell ⟨X,6,O⟩ (E Z 2)).drew):=(zJ w X 6 _).drew;have HU:=Y0 hu;have lC:=Y0 hx2;have dK:=Y0 hR2;have dP:=Y0 hK2;clear c1 c1' c2 hb hv qh hu hx hx2 hR2 hK2 hR;go_enter Tryz.func74,Tryz.ntmps74;go_upto_region 2 with fail;rw[←HT.out];go_wp2_with fail;go_region
    go_wp2_with fail;rw[←HU.out];generalize (w.setCell ⟨X,6,O⟩ (E Z 2)).drew=wq at lC dK dP ⊢;exact J84
   ·have c2':endsWith tl [62,48]=false:=by simpa using c2
    rw[c2'] at q2;clear hex htz ht hsl h h1 hs h2 hs2;have hb:Vl x tl=(tl,x.w):=by unfold Vl;rw[if_neg c1,if_neg c2]
    rw[hb] at hv ⊢;have aG:=Y0 (vF R n t v (by rw[htl];exact hv) w hR);have lC:=Y0 hx;clear hb hv qh hu c1 c1' c2 c2' htl hx hR;exact J89
 ·have iN:(t.size:Int)<2:=Y1;have e1:endsWith tl [61,48]=false:=by rw[zbx,decide_eq_false Y77,Bool.false_and]
  have e2:endsWith tl [62,48]=false:=by rw[zbx,decide_eq_false Y77,Bool.false_and]
  clear hex htz ht hsl h h1 hs h2;have hb:Vl x tl=(tl,x.w):=by unfold Vl;rw[e1,e2];rfl
  rw[hb] at hv ⊢;have aG:=Y0 (vF R n t v (by rw[htl];exact hv) w hR);have lC:=Y0 hx;clear hb hv e1 e2 htl hx hR;exact J89
open Go.RowKit Go.Maps
def Ve (w:World) (R rb:Nat) (vc vl vn vw:Value) (st:St) (ln X:Nat) (y:zx) (o:Option Str) (e:Ending) (w':World):Prop:=
 e=Rt (Y none)∧zT w' X y∧ ∃aN,RP w' R rb vc vl vn aN { st with wants:=st.wants++o.toList.map (fun t=>(st.code.length,ln,t))} ln∧Keeps (fun k=>k=X∨gI R vc vl vn vw k) w w'∧ ∀k,aN.ownBlock=some k→vw.ownBlock=some k∨w.heap.size≤k
section
variable {w w':World} {R rb ln:Nat} {vc vl vn vw:Value} {st:St} {X:Nat} {y:zx}
theorem vY (h:RP w R rb vc vl vn vw st ln) (hX: ¬gI R vc vl vn vw X) (hy:zT w' X y) (hk:Keeps (fun i=>i=X) w w'):Ve w R rb vc vl vn vw st ln X y none (.returned (Y none)) w':=by
 exact zw4
end
theorem a27.Q4 (h:zP:=by
 obtain rfl:=hm r H1.out;have HF:=Y0 (vY HP.out lZ.out (hx1.zvQ m) (hK1.trans (zJ w1 X 1 _) (fun _ h=>Or.inl h)));exact J74):zP:=h
theorem a27.Q87 (h:zP:=by
 have H1:=Y0 hr;clear hP hX hx hr hs;exact J4):zP:=h
open a27 in
theorem zlc {w:World} {R rb ln:Nat} {vc vl vn vw:Value} {st:St} {X:Nat} {x:zx} (hP:RP w R rb vc vl vn vw st ln) (hX: ¬gI R vc vl vn vw X) (hx:zT w X x) (s:ByteArray) (hs:s.size≤100000) (r:Int) (hr:Zr s.data.toList=some r):
  Calls Tp 73 #[Y (V ⟨R,0,O⟩),E Z 0, .string s,Y (V ⟨X,0,O⟩)] w (Ve w R rb vc vl vn vw st ln X { x with a:=r} none):=by
 exact J87
theorem a28.Q4 (h:zP:=by
 obtain rfl:=hm r H1.out;have HF:=Y0 (vY HP.out lZ.out (hx1.Je m) (hK1.trans (zJ w1 X 2 _) (fun _ h=>Or.inl h)));exact J74):zP:=h
theorem a28.Q87 (h:zP:=by
 have H1:=Y0 hr;clear hP hX hx hr hs;exact J4):zP:=h
open a28 in
theorem zlJ {w:World} {R rb ln:Nat} {vc vl vn vw:Value} {st:St} {X:Nat} {x:zx} (hP:RP w R rb vc vl vn vw st ln) (hX: ¬gI R vc vl vn vw X) (hx:zT w X x) (s:ByteArray) (hs:s.size≤100000) (r:Int) (hr:Zr s.data.toList=some r):
  Calls Tp 73 #[Y (V ⟨R,0,O⟩),E Z 1, .string s,Y (V ⟨X,0,O⟩)] w (Ve w R rb vc vl vn vw st ln X { x with b:=r} none):=by
 exact J87
theorem a29.Q4 (h:zP:=by
 obtain rfl:=hm r H1.out;have HF:=Y0 (vY HP.out lZ.out (hx1.zij m) (hK1.trans (zJ w1 X 3 _) (fun _ h=>Or.inl h)));exact J74):zP:=h
theorem a29.Q87 (h:zP:=by
 have H1:=Y0 hr;clear hP hX hx hr hs;exact J4):zP:=h
open a29 in
theorem zlk {w:World} {R rb ln:Nat} {vc vl vn vw:Value} {st:St} {X:Nat} {x:zx} (hP:RP w R rb vc vl vn vw st ln) (hX: ¬gI R vc vl vn vw X) (hx:zT w X x) (s:ByteArray) (hs:s.size≤100000) (r:Int) (hr:Zr s.data.toList=some r):
  Calls Tp 73 #[Y (V ⟨R,0,O⟩),E Z 2, .string s,Y (V ⟨X,0,O⟩)] w (Ve w R rb vc vl vn vw st ln X { x with c:=r} none):=by
 exact J87
theorem a30.Q4 (h:zP:=by
 obtain rfl:=hm r H1.out;have HF:=Y0 (vY HP.out lZ.out (hx1.Je m) (hK1.trans (zJ w1 X 2 _) (fun _ h=>Or.inl h)));exact J74):zP:=h
theorem a30.Q87 (h:zP:=by
 have H1:=Y0 hr;clear hP hX hx hr hs;exact J4):zP:=h
open a30 in
theorem zkR {w:World} {R rb ln:Nat} {vc vl vn vw:Value} {st:St} {X:Nat} {x:zx} (hP:RP w R rb vc vl vn vw st ln) (hX: ¬gI R vc vl vn vw X) (hx:zT w X x) (s:ByteArray) (hs:s.size≤100000) (r:Int) (hr:Zr s.data.toList=some r):
  Calls Tp 73 #[Y (V ⟨R,0,O⟩),E Z 3, .string s,Y (V ⟨X,0,O⟩)] w (Ve w R rb vc vl vn vw st ln X { x with b:=r} none):=by
 exact J87
theorem a31.Q4 (h:zP:=by
 obtain rfl:=hm r H1.out;have HF:=Y0 (vY HP.out lZ.out (hx1.zij m) (hK1.trans (zJ w1 X 3 _) (fun _ h=>Or.inl h)));exact J74):zP:=h
theorem a31.Q87 (h:zP:=by
 have H1:=Y0 hr;clear hP hX hx hr hs;exact J4):zP:=h
open a31 in
theorem znh {w:World} {R rb ln:Nat} {vc vl vn vw:Value} {st:St} {X:Nat} {x:zx} (hP:RP w R rb vc vl vn vw st ln) (hX: ¬gI R vc vl vn vw X) (hx:zT w X x) (s:ByteArray) (hs:s.size≤100000) (r:Int) (hr:Zr s.data.toList=some r):
  Calls Tp 73 #[Y (V ⟨R,0,O⟩),E Z 4, .string s,Y (V ⟨X,0,O⟩)] w (Ve w R rb vc vl vn vw st ln X { x with c:=r} none):=by
 exact J87
theorem a32.Q4 (h:zP:=by
 have aG:=Y0 (vF R ln s v H1.out (w1.setCell ⟨X,2,O⟩ (E Z m)) (((zJ w1 X 2 (E Z m)).cell (p:=⟨R,4,O⟩) (jX hc4) (fun e=>lZ.out (Or.inl (Eq.symm e)))).trans hc4));have HF:=Y0 (vY HP.out lZ.out (((hx1.Je m).zaC v).Je (-1)) (((hK1.trans (zJ w1 X 2 _) (fun _ h=>Or.inl h)).trans (zJ _ X 4 _) (fun _ h=>Or.inl h)).trans (zJ _ X 2 _) (fun _ h=>Or.inl h)));clear hm hx1 hK1 hc4;rw[H2.out];simp only[Option.isSome_none];exact J77):zP:=h
theorem a32.Q87 (h:zP:=by
 have H1:=Y0 hv;have H2:=Y0 hr;clear hP hX hx hr hv hs;exact J4):zP:=h
open a32 in
theorem zm6 {w:World} {R rb ln:Nat} {vc vl vn vw:Value} {st:St} {X:Nat} {x:zx} (hP:RP w R rb vc vl vn vw st ln) (hX: ¬gI R vc vl vn vw X) (hx:zT w X x) (s:ByteArray) (hs:s.size≤100000) (v:Int) (hr:Zr s.data.toList=none) (hv:kQ s.data.toList=some v):
  Calls Tp 73 #[Y (V ⟨R,0,O⟩),E Z 3, .string s,Y (V ⟨X,0,O⟩)] w (Ve w R rb vc vl vn vw st ln X { x with b:= -1,v:=v} none):=by
 exact J87
theorem a33.Q4 (h:zP:=by
 have aG:=Y0 (vF R ln s v H1.out (w1.setCell ⟨X,3,O⟩ (E Z m)) (((zJ w1 X 3 (E Z m)).cell (p:=⟨R,4,O⟩) (jX hc4) (fun e=>lZ.out (Or.inl (Eq.symm e)))).trans hc4));have HF:=Y0 (vY HP.out lZ.out (((hx1.zij m).zaC v).zij (-1)) (((hK1.trans (zJ w1 X 3 _) (fun _ h=>Or.inl h)).trans (zJ _ X 4 _) (fun _ h=>Or.inl h)).trans (zJ _ X 3 _) (fun _ h=>Or.inl h)));clear hm hx1 hK1 hc4;rw[H2.out];simp only[Option.isSome_none];exact J77):zP:=h
theorem a33.Q87 (h:zP:=by
 have H1:=Y0 hv;have H2:=Y0 hr;clear hP hX hx hr hv hs;exact J4):zP:=h
open a33 in
theorem zld {w:World} {R rb ln:Nat} {vc vl vn vw:Value} {st:St} {X:Nat} {x:zx} (hP:RP w R rb vc vl vn vw st ln) (hX: ¬gI R vc vl vn vw X) (hx:zT w X x) (s:ByteArray) (hs:s.size≤100000) (v:Int) (hr:Zr s.data.toList=none) (hv:kQ s.data.toList=some v):
  Calls Tp 73 #[Y (V ⟨R,0,O⟩),E Z 4, .string s,Y (V ⟨X,0,O⟩)] w (Ve w R rb vc vl vn vw st ln X { x with c:= -1,v:=v} none):=by
 exact J87
theorem a34.Q4 (h:zP:=by
 have aG:=Y0 (vF R ln s v H1.out w1 (hc4));have HF:=Y0 (vY HP.out lZ.out (hx1.zaC v) (hK1.trans (zJ w1 X 4 _) (fun _ h=>Or.inl h)));clear hm hx1 hK1 hc4;generalize (Zr s.data.toList).isSome=b;exact J77):zP:=h
theorem a34.Q87 (h:zP:=by
 have H1:=Y0 hv;clear hP hX hx hv hs;exact J4):zP:=h
open a34 in
theorem zqb {w:World} {R rb ln:Nat} {vc vl vn vw:Value} {st:St} {X:Nat} {x:zx} (hP:RP w R rb vc vl vn vw st ln) (hX: ¬gI R vc vl vn vw X) (hx:zT w X x) (s:ByteArray) (hs:s.size≤100000) (v:Int) (hv:kQ s.data.toList=some v):
  Calls Tp 73 #[Y (V ⟨R,0,O⟩),E Z 7, .string s,Y (V ⟨X,0,O⟩)] w (Ve w R rb vc vl vn vw st ln X { x with v:=v} none):=by
 exact J87
theorem a35.Q4 (h:zP:=by
 have IC:=Y0 hx1;have wL:=Y0 hK1;clear hm hx1 hK1 o0 o1 o2 o3 o4 o5 o6 of hlt;generalize (Zr s.data.toList).isSome=b;go_wp2_with fail;refine (E8.out _).mono ?_;rintro e w2 ⟨rfl,q2,hw2⟩;rw[H2.out];have hx2:zT w2 X x:=by rw[hw2];exact IC.out
 have hK2:Keeps (fun i=>i=X) w w2:=by rw[hw2];exact wL.out.drewN q2
 have hc2:w2.cell? ⟨R,4,O⟩=V (E Z (ln:Int)):=by rw[hw2];exact hc4
 clear hw2;obtain ⟨o0,o1,o2,o3,o4,o5,o6,of⟩:=hx2.cell;have hlt:=hx2.lt;have aG:=Y0 (vF R ln s v H1.out w2 hc2);have HF:=Y0 (vY HP.out lZ.out (hx2.zaC v) (hK2.trans (zJ w2 X 4 _) (fun _ h=>Or.inl h)));clear hx2 hK2 hc2;exact J77):zP:=h
theorem a35.Q87 (h:zP:=by
 have H1:=Y0 hv;have H2:=Y0 hn;have E8:=Y0 (fun w=>JA s w Y1);clear hP hX hx hn hv hs;exact J4):zP:=h
open a35 in
theorem zjv {w:World} {R rb ln:Nat} {vc vl vn vw:Value} {st:St} {X:Nat} {x:zx} (hP:RP w R rb vc vl vn vw st ln) (hX: ¬gI R vc vl vn vw X) (hx:zT w X x) (s:ByteArray) (hs:s.size≤100000) (v:Int) (hn:ZC s.data.toList=false) (hv:kQ s.data.toList=some v):
  Calls Tp 73 #[Y (V ⟨R,0,O⟩),E Z 8, .string s,Y (V ⟨X,0,O⟩)] w (Ve w R rb vc vl vn vw st ln X { x with v:=v} none):=by
 exact J87
theorem a36.Q4 (h:zP:=by
 have HC:=Y0 (zkQ R X x y s ln w1 hc4 hx1 H1.out (by have:=hs2.out;omega));have wL:=Y0 hK1;clear hm hx1 hK1 hc4 o0 o1 o2 o3 o4 o5 o6 of hlt;generalize (Zr s.data.toList).isSome=b;go_wp2_with fail;refine HC.out.mono ?_;rintro e w3 ⟨rfl,hy3,hk3⟩;have HF:=Y0 (vY HP.out lZ.out hy3 (wL.out.trans hk3 (fun _ h=>Or.inl h)));clear hy3 hk3;go_wp2;go_ret;exact HF.out):zP:=h
theorem a36.Q87 (h:zP:=by
 have H1:=Y0 hy;have hs2:=Y0 hs;clear hP hX hx hy hs;exact J4):zP:=h
open a36 in
theorem zmu {w:World} {R rb ln:Nat} {vc vl vn vw:Value} {st:St} {X:Nat} {x:zx} (hP:RP w R rb vc vl vn vw st ln) (hX: ¬gI R vc vl vn vw X) (hx:zT w X x) (s:ByteArray) (hs:s.size≤100000) (y:zx) (hy:cellL x s.data.toList=some y):
  Calls Tp 73 #[Y (V ⟨R,0,O⟩),E Z 5, .string s,Y (V ⟨X,0,O⟩)] w (Ve w R rb vc vl vn vw st ln X y none):=by
 exact J87
end Asm
namespace Kn
open Go.RowKit Go.Maps Asm Go.Proofs.YtdlpmnmenhojfaaGreatDoor.Fair
theorem zzJ (a b c:Int): ∀u∈ [Value.int Z a,E Z b,E J c],u.oneCell'=true:=fun u hu=>by
 simp at hu
 rcases hu with rfl|rfl|rfl<;>rfl
theorem zlo (w:World) (a b c:Value) (t:TypeId) (n:Nat) (hn:n=w.heap.size): ∀j u,[a,b,c][j]?=some u→(w.alloc (Ce #[a,b,c] t)).drew.cell? ((⟨n,0,O⟩:Addr).add j)=some u:=jD w a b c t n hn
theorem zkS {B:Nat} {a w:World} (h:Below B a w):Below B a w.drew:=⟨h.os,h.tape,h.output,h.size,h.block⟩
theorem zcy {w wr:World} (hb:Below w.heap.size w wr) (o1 o2:Obj):Below w.heap.size w ((wr.alloc o1).alloc o2):=(hb.alloc hb.size o1).alloc (by have:=hb.size;simp;omega) o2
theorem zgY {w W w1:World} {row:Option Nat} (hb:Below w.heap.size w W) (hg:W.grownBy w1 row) (hr: ∀b,row=some b→w.heap.size≤b):Below w.heap.size w w1:=
 ⟨hg.os.trans hb.os,hg.tape.trans hb.tape,hg.output.trans hb.output,Nat.le_trans hb.size hg.size,fun b hbb=>(hg.block b (Nat.lt_of_lt_of_le hbb hb.size) fun e=>by have:=hr b e.symm;omega).trans (hb.block b hbb)⟩
theorem zir (w:World) (A:Option Addr) (n c:Nat) (zs:Nat→Int) (hn:n≤9223372036854775807) (hD:zje J w A n zs):
  Calls Tp 14 #[E Z 1, .slice A n c,E Z 50] w fun e w'=> ∃v,∃l:List kS,e= .returned v∧l.length≤50∧w'.ownsRow w.heap.size 39 3 v l.length (vR l)∧Below w.heap.size w w':=by
 obtain ⟨i34,rW,sU,sK,iE⟩:=info_parts zqt;have dV:(0:Int)≤(n:Int)∧(n:Int)≤9223372036854775807:=Y1;have HD:=Y0 hD;clear hD;go_enter Tryz.func14,Tryz.ntmps14;go_wp2_with fail;go_loopg [8,7] 50 (fun g iv sv wr=> ∃i:Nat,i≤50∧g=50 - i∧iv=E Z (i:Int)∧Hid (∃l:List kS,l.length=i∧wr.ownsRow w.heap.size 39 3 sv i (vR l)∧Below w.heap.size w wr));case atStart=>exact ⟨0,by omega,rfl,rfl,Y0 ⟨[],rfl,World.ownsRow_nil _ _ _ _,Below.refl _ _⟩⟩
 case round=>
  obtain ⟨i,hi,hg,rfl,HR⟩:=hrel;have Hg:=Y0 hg;have dH:(0:Int)≤(i:Int)∧(i:Int)≤50:=Y1;obtain ⟨l,hl,hown,hb⟩:=HR.out;obtain ⟨A4,c4,rfl⟩:=Asm.zn hown;by_cases hlt:i<50∧0<n
  ·obtain ⟨hlt,hn0⟩:=hlt;have aH:(i:Int)<50:=Y1;have Tk:(0:Int)<(n:Int):=Y1;have fu:=Y0 hlt;obtain ⟨k,hk⟩: ∃k,k=i%n:=⟨_,rfl⟩;have hkn:k<n:=by rw[hk];exact Nat.mod_lt _ hn0
   have dL:(0:Int)≤(k:Int)∧(k:Int)<(n:Int):=Y1;obtain ⟨bb,off,rfl,hbl,hcell,hwf⟩:=HD.out k hkn;have c0:=(hb.cell (p:=⟨bb,off+k,O⟩) hbl).trans hcell;have hmod:Int.tmod (i:Int) (n:Int)=(k:Int):=by rw[hk];rfl
   have TG:Int.tdiv (i:Int) (n:Int)=((i/n:Nat):Int):=rfl;have dN:=Y0 (And.intro hl (And.intro hown hb));clear hown hb HR hk hg hcell hwf hbl;go_wp2_with fail;go_region;go_wp2_with (at_builtin;refine wpList_append_own _ rfl (.tmp 53) (.tmp 55) 43 rfl w.heap.size 39 i34 _ 3 24 Tryz.underlying43 rW sU sK iE rfl Y2 _ _ _ rfl ((dN.out.2.1.alloc _).alloc _) ⟨wr.heap.size+1,0,O⟩ 1 1 [_,_,_] rfl rfl (zlo _ _ _ _ _ _ (by first|rfl|simp)) ?_ ?_ ?_ ?_ ?_);all_goals first
    |exact zzJ _ _ _
    |(unfold maxLen;omega)
    |omega
    |(have:=dN.out.2.2.size;simp;omega)
    |skip
   all_goals
    intro v' w1 hrow' hgrow _
    obtain ⟨hl,hown,hb⟩:=dN.out
    have hb3:Below w.heap.size w w1:=zgY (by first|exact zkS (zcy hb _ _) |exact zcy hb _ _) hgrow fun b e=>(hown.lt b e).1
    obtain ⟨A3,c3,rfl⟩:=Asm.zn hrow'
    have HZ:Hid (∃l:List kS,l.length=i+1∧w1.ownsRow w.heap.size 39 3 (.slice A3 (i+1) c3) (i+1) (vR l)∧Below w.heap.size w w1):=Y0 ⟨l++ [⟨_,_,_⟩],by simp[hl],by rw[zax];exact hrow',hb3⟩
    clear hl hown hb hb3 hrow' hgrow dN
    go_wp2_with fail
    go_roundg (50 - (i+1))
    case measure=>have:=Hg.out;have:=fu.out;omega
    case rel=>have:=fu.out;exact ⟨i+1,by omega,rfl,by go_num,HZ⟩
  ·have dN:=Y0 (And.intro hl (And.intro hown hb));clear hown hb HR hg;by_cases h50:i<50
   ·have aH:(i:Int)<50:=Y1;obtain rfl:n=0:=Y1;go_wp2_with fail;go_ret;obtain ⟨hl,hown,hb⟩:=dN.out;exact ⟨_,l,rfl,by omega,by rw[hl];exact hown,hb⟩
   ·obtain rfl:i=50:=Y1;go_wp2_with fail;go_ret;obtain ⟨hl,hown,hb⟩:=dN.out;exact ⟨_,l,rfl,by omega,by rw[hl];exact hown,hb⟩
end Kn
end Go.Proofs.YtdlpmnmenhojfaaGreatDoor
