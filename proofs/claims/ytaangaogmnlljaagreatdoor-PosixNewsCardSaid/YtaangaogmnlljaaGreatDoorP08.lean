/- Part 8 of what the proof stands on: RefA, KnUsed. -/
import Derived.Test.YtaangaogmnlljaaGreatDoorP07
set_option linter.unusedVariables false
set_option maxHeartbeats 40000000
namespace Go.Proofs.YtaangaogmnlljaaGreatDoor.Asm
open Go.RowKit Go.Maps
def rwantsC (l:List (Nat×Nat×Str)):List Value:=l.flatMap fun p=> [.int .i64 p.2.1, .int .i64 p.1,strV p.2.2]
structure RP (w:World) (R rb:Nat) (vc vl vn vw:Value) (st:St) (ln:Nat):Prop where
 obj:w.heap[R]?=some (.cells #[vc,vl,vn,vw, .int .i64 (ln:Int)] 360 (0,0))
 code:w.ownsRow rb 68 7 vc st.code.length (codeC st.code)
 labels:w.ownsRow rb 365 2 vl st.labels.length (labelsC st.labels)
 lines:w.ownsRow rb 3 1 vn st.lines.length (linesC st.lines)
 wants:w.ownsRow rb 364 3 vw st.wants.length (rwantsC st.wants)
def OfP (R:Nat) (vc vl vn vw:Value) (k:Nat):Prop:=k=R∨vc.ownBlock=some k∨vl.ownBlock=some k∨vn.ownBlock=some k∨vw.ownBlock=some k
section
variable {w w':World} {R rb ln:Nat} {vc vl vn vw:Value} {st:St}
theorem RP.lt (h:RP w R rb vc vl vn vw st ln):R<w.heap.size:=(Array.getElem?_eq_some_iff.1 h.obj).1
theorem RP.cell (h:RP w R rb vc vl vn vw st ln):w.cell? ⟨R,0,none⟩=some vc∧w.cell? ⟨R,1,none⟩=some vl∧w.cell? ⟨R,2,none⟩=some vn∧w.cell? ⟨R,3,none⟩=some vw∧w.cell? ⟨R,4,none⟩=some (.int .i64 (ln:Int))∧ ∀o,w.frozen? ⟨R,o,none⟩=false:=by
 exact m90
theorem RP.of_lt (h:RP w R rb vc vl vn vw st ln) {k:Nat} (hk:OfP R vc vl vn vw k):k<w.heap.size:=by
 rcases hk with rfl|hk|hk|hk|hk
 ·exact h.lt
 ·exact (h.code.lt k hk).2
 ·exact (h.labels.lt k hk).2
 ·exact (h.lines.lt k hk).2
 ·exact (h.wants.lt k hk).2
theorem RP.of_blocks (h:RP w R rb vc vl vn vw st ln) (e: ∀k,OfP R vc vl vn vw k→w'.heap[k]?=w.heap[k]?):RP w' R rb vc vl vn vw st ln:=
 ⟨(e R (Or.inl rfl)).trans h.obj,ownsRow_of_block h.code fun k hk=>e k (Or.inr (Or.inl hk)),ownsRow_of_block h.labels fun k hk=>e k (Or.inr (Or.inr (Or.inl hk))),ownsRow_of_block h.lines fun k hk=>e k (Or.inr (Or.inr (Or.inr (Or.inl hk)))),ownsRow_of_block h.wants fun k hk=>e k (Or.inr (Or.inr (Or.inr (Or.inr hk))))⟩
theorem RP.keeps {X:Nat→Prop} (h:RP w R rb vc vl vn vw st ln) (k:Keeps X w w') (hx: ∀i,OfP R vc vl vn vw i→ ¬X i):RP w' R rb vc vl vn vw st ln:=
 h.of_blocks fun i hi=>k.block i (h.of_lt hi) (hx i hi)
theorem RP.below (h:RP w R rb vc vl vn vw st ln) (k:Below w.heap.size w w'):RP w' R rb vc vl vn vw st ln:=h.of_blocks fun i hi=>k.block i (h.of_lt hi)
theorem RP.tagR (h:RP w R rb vc vl vn vw st ln):tagOf w R=360+2:=tag_cells h.obj
theorem a19.q70 {P:Prop} (h:P:=by
 exact ⟨set_block (hR2.trans h.obj) _,(ownsRow_of_block hr fun k hk=>Below.heap_setCell _ _ _ _ (hnR k hk)),(ownsRow_of_block (ownsRow_of_block h.labels fun k hk=>hg.block k (h.labels.lt k hk).2 (own_ne h.code (tag_row h.labels hk) (by decide))) fun k hk=>Below.heap_setCell _ _ _ _ (ne_of_tag (tag_row h.labels hk) h.tagR (by decide))),(ownsRow_of_block (ownsRow_of_block h.lines fun k hk=>hg.block k (h.lines.lt k hk).2 (own_ne h.code (tag_row h.lines hk) (by decide))) fun k hk=>Below.heap_setCell _ _ _ _ (ne_of_tag (tag_row h.lines hk) h.tagR (by decide))),(ownsRow_of_block (ownsRow_of_block h.wants fun k hk=>hg.block k (h.wants.lt k hk).2 (own_ne h.code (tag_row h.wants hk) (by decide))) fun k hk=>Below.heap_setCell _ _ _ _ (ne_of_tag (tag_row h.wants hk) h.tagR (by decide)))⟩):P:=h
open a19 in
theorem RP.add_code (h:RP w R rb vc vl vn vw st ln) {w2:World} {v':Value} (x:InsL) (hg:w.grownBy w2 vc.ownBlock) (hr:w2.ownsRow rb 68 7 v' (st.code++ [x]).length (codeC (st.code++ [x]))):RP (w2.setCell ⟨R,0,none⟩ v') R rb v' vl vn vw { st with code:=st.code++ [x]} ln:=by
 have hR2:w2.heap[R]?=w.heap[R]?:=hg.block R h.lt (own_ne h.code h.tagR (by decide))
 exact m70
theorem a20.q70 {P:Prop} (h:P:=by
 exact ⟨set_block (hR2.trans h.obj) _,(ownsRow_of_block (ownsRow_of_block h.code fun k hk=>hg.block k (h.code.lt k hk).2 (own_ne h.labels (tag_row h.code hk) (by decide))) fun k hk=>Below.heap_setCell _ _ _ _ (ne_of_tag (tag_row h.code hk) h.tagR (by decide))),(ownsRow_of_block hr fun k hk=>Below.heap_setCell _ _ _ _ (hnR k hk)),(ownsRow_of_block (ownsRow_of_block h.lines fun k hk=>hg.block k (h.lines.lt k hk).2 (own_ne h.labels (tag_row h.lines hk) (by decide))) fun k hk=>Below.heap_setCell _ _ _ _ (ne_of_tag (tag_row h.lines hk) h.tagR (by decide))),(ownsRow_of_block (ownsRow_of_block h.wants fun k hk=>hg.block k (h.wants.lt k hk).2 (own_ne h.labels (tag_row h.wants hk) (by decide))) fun k hk=>Below.heap_setCell _ _ _ _ (ne_of_tag (tag_row h.wants hk) h.tagR (by decide)))⟩):P:=h
open a20 in
theorem RP.add_labels (h:RP w R rb vc vl vn vw st ln) {w2:World} {v':Value} (x:Str×Nat) (hg:w.grownBy w2 vl.ownBlock) (hr:w2.ownsRow rb 365 2 v' (st.labels++ [x]).length (labelsC (st.labels++ [x]))):RP (w2.setCell ⟨R,1,none⟩ v') R rb vc v' vn vw { st with labels:=st.labels++ [x]} ln:=by
 have hR2:w2.heap[R]?=w.heap[R]?:=hg.block R h.lt (own_ne h.labels h.tagR (by decide))
 exact m70
theorem a21.q70 {P:Prop} (h:P:=by
 exact ⟨set_block (hR2.trans h.obj) _,(ownsRow_of_block (ownsRow_of_block h.code fun k hk=>hg.block k (h.code.lt k hk).2 (own_ne h.lines (tag_row h.code hk) (by decide))) fun k hk=>Below.heap_setCell _ _ _ _ (ne_of_tag (tag_row h.code hk) h.tagR (by decide))),(ownsRow_of_block (ownsRow_of_block h.labels fun k hk=>hg.block k (h.labels.lt k hk).2 (own_ne h.lines (tag_row h.labels hk) (by decide))) fun k hk=>Below.heap_setCell _ _ _ _ (ne_of_tag (tag_row h.labels hk) h.tagR (by decide))),(ownsRow_of_block hr fun k hk=>Below.heap_setCell _ _ _ _ (hnR k hk)),(ownsRow_of_block (ownsRow_of_block h.wants fun k hk=>hg.block k (h.wants.lt k hk).2 (own_ne h.lines (tag_row h.wants hk) (by decide))) fun k hk=>Below.heap_setCell _ _ _ _ (ne_of_tag (tag_row h.wants hk) h.tagR (by decide)))⟩):P:=h
open a21 in
theorem RP.add_lines (h:RP w R rb vc vl vn vw st ln) {w2:World} {v':Value} (x:Nat) (hg:w.grownBy w2 vn.ownBlock) (hr:w2.ownsRow rb 3 1 v' (st.lines++ [x]).length (linesC (st.lines++ [x]))):RP (w2.setCell ⟨R,2,none⟩ v') R rb vc vl v' vw { st with lines:=st.lines++ [x]} ln:=by
 have hR2:w2.heap[R]?=w.heap[R]?:=hg.block R h.lt (own_ne h.lines h.tagR (by decide))
 exact m70
theorem a22.q70 {P:Prop} (h:P:=by
 exact ⟨set_block (hR2.trans h.obj) _,(ownsRow_of_block (ownsRow_of_block h.code fun k hk=>hg.block k (h.code.lt k hk).2 (own_ne h.wants (tag_row h.code hk) (by decide))) fun k hk=>Below.heap_setCell _ _ _ _ (ne_of_tag (tag_row h.code hk) h.tagR (by decide))),(ownsRow_of_block (ownsRow_of_block h.labels fun k hk=>hg.block k (h.labels.lt k hk).2 (own_ne h.wants (tag_row h.labels hk) (by decide))) fun k hk=>Below.heap_setCell _ _ _ _ (ne_of_tag (tag_row h.labels hk) h.tagR (by decide))),(ownsRow_of_block (ownsRow_of_block h.lines fun k hk=>hg.block k (h.lines.lt k hk).2 (own_ne h.wants (tag_row h.lines hk) (by decide))) fun k hk=>Below.heap_setCell _ _ _ _ (ne_of_tag (tag_row h.lines hk) h.tagR (by decide))),(ownsRow_of_block hr fun k hk=>Below.heap_setCell _ _ _ _ (hnR k hk))⟩):P:=h
open a22 in
theorem RP.add_wants (h:RP w R rb vc vl vn vw st ln) {w2:World} {v':Value} (x:Nat×Nat×Str) (hg:w.grownBy w2 vw.ownBlock) (hr:w2.ownsRow rb 364 3 v' (st.wants++ [x]).length (rwantsC (st.wants++ [x]))):RP (w2.setCell ⟨R,3,none⟩ v') R rb vc vl vn v' { st with wants:=st.wants++ [x]} ln:=by
 have hR2:w2.heap[R]?=w.heap[R]?:=hg.block R h.lt (own_ne h.wants h.tagR (by decide))
 exact m70
theorem RP.next (h:RP w R rb vc vl vn vw st ln):RP (w.setCell ⟨R,4,none⟩ (.int .i64 ((ln:Int)+1))) R rb vc vl vn vw st (ln+1):=by
 have hb: ∀k,k≠R→(w.setCell ⟨R,4,none⟩ (.int .i64 ((ln:Int)+1))).heap[k]?=w.heap[k]?:=fun k hk=>Below.heap_setCell _ _ _ _ hk
 exact ⟨by have:=set_block h.obj (k:=4) (.int .i64 ((ln:Int)+1));simpa using this,ownsRow_of_block h.code fun k hk=>hb k (ne_of_tag (tag_row h.code hk) h.tagR (by decide)),ownsRow_of_block h.labels fun k hk=>hb k (ne_of_tag (tag_row h.labels hk) h.tagR (by decide)),ownsRow_of_block h.lines fun k hk=>hb k (ne_of_tag (tag_row h.lines hk) h.tagR (by decide)),ownsRow_of_block h.wants fun k hk=>hb k (ne_of_tag (tag_row h.wants hk) h.tagR (by decide))⟩
theorem of_ofP {vw':Value} {W5:World} (ho: ∀k,vw'.ownBlock=some k→vw.ownBlock=some k∨W5.heap.size≤k) {k:Nat} (h:OfP R vc vl vn vw' k):OfP R vc vl vn vw k∨W5.heap.size≤k:=by
 rcases h with h|h|h|h|h
 ·exact Or.inl (Or.inl h)
 ·exact Or.inl (Or.inr (Or.inl h))
 ·exact Or.inl (Or.inr (Or.inr (Or.inl h)))
 ·exact Or.inl (Or.inr (Or.inr (Or.inr (Or.inl h))))
 ·rcases ho k h with h|h
  ·exact Or.inl (Or.inr (Or.inr (Or.inr (Or.inr h))))
  ·exact Or.inr h
end
end Go.Proofs.YtaangaogmnlljaaGreatDoor.Asm
namespace Go.Proofs.YtaangaogmnlljaaGreatDoor.Asm
open Go.RowKit
theorem rdigit_any (c:Int) (h1:48≤c) (h2:c≤57) (w:World):
  Calls Tryz.prog 372 #[.int .u8 c] w fun e w'=>e= .returned (.int .u64 (c - 48))∧w=w':=by
 go_enter Tryz.func372,Tryz.ntmps372
 go_wp2
 go_ret
 exact ⟨rfl,rfl⟩
theorem a23.q28 {P:Prop} (h:P:=by
 by_cases h2:2≤s.size
 ·have h2I:(2:Int)≤(s.size:Int):=by omega
  have d1:=hdig 1 (by omega)
  have hx:((s[1].toNat:Int)==120)=false:=beq_eq_false_iff_ne.2 (by omega)
  clear h hd hl hv hlt h0 hdig
  go_enter Tryz.func335,Tryz.ntmps335
  go_upto_region 2 with fail
  go_cut [22] (fun cc wx=>cc= .bool false∧w=wx)
  case first=>
   go_wp2_with fail
   all_goals
    go_meet
    exact ⟨rfl,rfl⟩
  case rest=>
   obtain ⟨rfl,rfl⟩:=hcut
   go_wp2
   go_loop [7,8] (fun vv iv=> ∃k:Nat,k≤s.size∧iv= .int .i64 k∧vv= .int .u64 (valL (s.data.toList.take k))) (fun _ iv=>s.size - (intOf iv).toNat)
   case atStart=>exact ⟨0,by omega,rfl,rfl⟩
   case round=>
    obtain ⟨k,hk,rfl,rfl⟩:=hrel
    have hkI:(k:Int)≤(s.size:Int):=by omega
    by_cases hlt:k<s.size
    ·exact m36
    exact m76
 ·have h2I:(s.size:Int)<2:=by omega
  clear h hd hl hv hlt h0 hdig
  go_enter Tryz.func335,Tryz.ntmps335
  go_wp2
  all_goals
   go_loop [7,8] (fun vv iv=> ∃k:Nat,k≤s.size∧iv= .int .i64 k∧vv= .int .u64 (valL (s.data.toList.take k))) (fun _ iv=>s.size - (intOf iv).toNat)
   case atStart=>exact ⟨0,by omega,rfl,rfl⟩
   case round=>
    obtain ⟨k,hk,rfl,rfl⟩:=hrel
    have hkI:(k:Int)≤(s.size:Int):=by omega
    by_cases hlt:k<s.size
    ·have hltI:(k:Int)<(s.size:Int):=by omega
     have hk20:(k:Int)<20:=by omega
     obtain ⟨d1,d2⟩:=HDg.out k hlt
     have hb1:=HLt.out (k+1)
     rw[take_snoc s k hlt,val_snoc] at hb1
     have HSn:Hid (valL (s.data.toList.take (k+1))=valL (s.data.toList.take k)*10+(s[k].toNat - 48)):=Lib.hid (by rw[take_snoc s k hlt,val_snoc])
     obtain ⟨a,ha⟩: ∃a:Int,a=(valL (s.data.toList.take k):Int):=⟨_,rfl⟩
     obtain ⟨c,hc⟩: ∃c:Int,c=(s[k].toNat:Int):=⟨_,rfl⟩
     have ha0:0≤a:=by omega
     have hab:a*10+(c - 48)<18446744073709551616:=by omega
     have HA:=Lib.hid ha
     have HC:=Lib.hid hc
     rw[←ha]
     have HD:=Lib.hid (rdigit_any c (by omega) (by omega) w)
     have f1:decide ((20:Int)≤(k:Int))=false:=by simp;omega
     have f0:decide ((10:Int)≤c - 48)=false:=by simp;omega
     have f2:decide ((1844674407370955161:Int)<a)=false:=by simp;omega
     have f3:decide (18446744073709551615 - (c - 48)<a*10)=false:=by simp;omega
     have hc48:48≤c:=by omega
     have hc57:c≤57:=by omega
     have HFin:Hid (a*10+(c - 48)=(valL (s.data.toList.take (k+1)):Int)):=Lib.hid (by rw[HSn.out];omega)
     clear hb1 ha d1 d2
     go_wp2_with fail
     rw[←hc]
     clear hc
     refine HD.out.mono ?_
     rintro e w' ⟨rfl,rfl⟩
     go_wp2
     go_round
     case rel=>first|exact ⟨k+1,by omega,by go_num,by rw[←HFin.out]⟩ |((repeat apply Exists.intro);exact ⟨⟨k+1,by omega,by go_num,by rw[←HFin.out]⟩,rfl⟩)
     case measure=>simp[intOf];omega
    ·obtain rfl:k=s.size:=by omega
     have HFin:Hid ((valL (s.data.toList.take s.size):Int)=v):=Lib.hid (by rw[←HV.out,List.take_of_length_le (by simp)])
     go_wp2
     go_ret2
     first|exact ⟨rfl,rfl⟩ |exact ⟨by rw[←HFin.out];rfl,rfl⟩):P:=h
theorem a23.q36 {P:Prop} (h:P:=by
 have HD:=Lib.hid (rdigit_any c (by omega) (by omega) w)
 have f1:decide ((20:Int)≤(k:Int))=false:=by simp;omega
 have f0:decide ((10:Int)≤c - 48)=false:=by simp;omega
 have f2:decide ((1844674407370955161:Int)<a)=false:=by simp;omega
 have f3:decide (18446744073709551615 - (c - 48)<a*10)=false:=by simp;omega
 exact m35):P:=h
open a23 in
set_option maxRecDepth 100000 in
theorem rparse_any (s:ByteArray) (v:Int) (h:numL s.data.toList=some v) (w:World):
  Calls Tryz.prog 335 #[.string s] w fun e w'=>e= .returned (.tuple #[.int .u64 v, .pointer none])∧w=w':=by
 exact m28
theorem in_nil (s:ByteArray) (n:Int) (w:World):Calls Tryz.prog 33 #[.string s, .int .i64 n, .pointer none] w fun e w'=>e= .returned (.pointer none)∧w=w':=by
 go_enter Tryz.func33,Tryz.ntmps33
 go_wp2
 go_ret
 exact ⟨rfl,rfl⟩
theorem rnumber_any (R:Nat) (n:Int) (s:ByteArray) (v:Int) (h:numL s.data.toList=some v) (w:World) (hc:w.cell? ⟨R,4,none⟩=some (.int .i64 n)):
  Calls Tryz.prog 285 #[.pointer (some ⟨R,0,none⟩), .string s] w fun e w'=>e= .returned (.tuple #[.int .u64 v, .pointer none])∧w=w':=by
 have H:=Lib.hid (rparse_any s v h w)
 clear h
 go_enter Tryz.func285,Tryz.ntmps285
 go_wp2_with fail
 refine H.out.mono ?_
 rintro e w' ⟨rfl,rfl⟩
 go_wp2_with fail
 refine (in_nil _ _ _).mono ?_
 rintro e w' ⟨rfl,rfl⟩
 go_wp2
 go_ret2
 exact ⟨rfl,rfl⟩
end Go.Proofs.YtaangaogmnlljaaGreatDoor.Asm
namespace Go.Proofs.YtaangaogmnlljaaGreatDoor.Asm
open Go.RowKit
def RRegOut (s:Str) (w:World) (e:Ending) (w':World):Prop:= ∃n:Int,e= .returned (.tuple #[.int .i64 n, .bool (regL s).isSome])∧(∀r,regL s=some r→n=r)∧ ∃q,w'=w.drewN q
theorem rreg_no {s:Str} {w:World} (n:Int) (h:regL s=none):RRegOut s w (.returned (.tuple #[.int .i64 n, .bool false])) w:=
 ⟨n,by rw[h];rfl,(fun r hr=>by rw[h] at hr;cases hr),0,rfl⟩
theorem list2 (s:ByteArray) (h:s.size=2):s.data.toList= [s[0]'(by omega),s[1]'(by omega)]:=by
 refine List.ext_getElem? fun k=>?_
 match k with
 |0=>rw[at_list s 0 (by omega)];rfl
 |1=>rw[at_list s 1 (by omega)];rfl
 |k+2=>rw[List.getElem?_eq_none (by rw[len_list];omega)];rfl
theorem list3 (s:ByteArray) (h:s.size=3):s.data.toList= [s[0]'(by omega),s[1]'(by omega),s[2]'(by omega)]:=by
 refine List.ext_getElem? fun k=>?_
 match k with
 |0=>rw[at_list s 0 (by omega)];rfl
 |1=>rw[at_list s 1 (by omega)];rfl
 |2=>rw[at_list s 2 (by omega)];rfl
 |k+3=>rw[List.getElem?_eq_none (by rw[len_list];omega)];rfl
theorem regL2 (a b:UInt8):regL [a,b]=if a=114∧isDigit b=true then some ((b.toNat - 48:Nat):Int) else none:=by
 unfold regL
 by_cases h:a=114∧isDigit b=true
 ·have:=(digit_iff b).1 h.2
  rw[if_pos h,if_pos]
  ·simp[valL]
  ·refine ⟨Or.inl rfl,by rw[←h.1];rfl,by simp,by simp[h.2],?_⟩
   simp[valL];omega
 ·rw[if_neg h,if_neg]
  intro h2
  refine h ⟨Option.some.inj h2.2.1,?_⟩
  have:=h2.2.2.2.1
  simpa using this
theorem regL3 (a b c:UInt8):regL [a,b,c]=if a=114∧49≤b.toNat∧b.toNat≤51∧isDigit c=true∧(b.toNat - 48)*10+(c.toNat - 48)<32 then some (((b.toNat - 48)*10+(c.toNat - 48):Nat):Int) else none:=by
 unfold regL
 by_cases h:a=114∧49≤b.toNat∧b.toNat≤51∧isDigit c=true∧(b.toNat - 48)*10+(c.toNat - 48)<32
 ·rw[if_pos h,if_pos]
  ·simp[valL]
  ·obtain ⟨h1,h2,h3,h4,h5⟩:=h
   refine ⟨Or.inr rfl,by rw[←h1];rfl,?_,?_,?_⟩
   ·rintro ⟨_,hb⟩
    have:b=48:=Option.some.inj hb
    rw[this] at h2
    exact absurd h2 (by decide)
   ·have hb:isDigit b=true:=(digit_iff b).2 (by omega)
    simp[hb,h4]
   ·simp[valL];exact h5
 ·rw[if_neg h,if_neg]
  rintro ⟨_,h1,h2,h3,h4⟩
  have hd:isDigit b=true∧isDigit c=true:=by simpa using h3
  have hb:=(digit_iff b).1 hd.1
  have hc:=(digit_iff c).1 hd.2
  have hv:(b.toNat - 48)*10+(c.toNat - 48)<32:=by simpa[valL] using h4
  have hne:b≠48:=fun e=>h2 ⟨rfl,by rw[e];rfl⟩
  have hne':b.toNat≠48:=fun e=>hne (by rw[←UInt8.toNat_inj];exact e)
  exact h ⟨Option.some.inj h1,by omega,by omega,hd.2,hv⟩
set_option maxRecDepth 100000 in
theorem rregister_any (s:ByteArray) (w:World) (hs:s.size≤9223372036854775807):Calls Tryz.prog 282 #[.string s] w (RRegOut s.data.toList w):=by
 have hsI:(s.size:Int)≤9223372036854775807:=by omega
 clear hs
 by_cases h2:s.size=2
 ·have hl:=list2 s h2
  have h0s:0<s.size:=by omega
  have h1s:1<s.size:=by omega
  have hr:=regL2 (s[0]'h0s) (s[1]'h1s)
  rw[←hl] at hr
  have t1:((s.size:Int)==2)=true:=beq_iff_eq.2 (by omega)
  have t2:((s.size:Int)==3)=false:=beq_eq_false_iff_ne.2 (by omega)
  have h1I:(2:Int)≤(s.size:Int):=by omega
  clear hl h2
  by_cases ha:s[0]'h0s=114
  case neg=>
   rw[if_neg (fun h=>ha h.1)] at hr
   have HR:=Lib.hid hr
   have t3:(((s[0]'h0s).toNat:Int)==114)=false:=beq_eq_false_iff_ne.2 (fun e=>ha ((eq_byte _ 114).1 e))
   clear hr ha
   exact m19
  have t3:(((s[0]'h0s).toNat:Int)==114)=true:=beq_iff_eq.2 ((eq_byte _ 114).2 ha)
  by_cases hd:isDigit (s[1]'h1s)=true
  ·obtain ⟨d1,d2⟩:=(digit_iff _).1 hd
   rw[if_pos ⟨ha,hd⟩] at hr
   have HR:=Lib.hid hr
   have t4:decide ((48:Int)≤((s[1]'h1s).toNat:Int))=true:=decide_eq_true d1
   have t5:decide (((s[1]'h1s).toNat:Int)≤(57:Int))=true:=decide_eq_true d2
   have HE:Hid (((s[1]'h1s).toNat:Int) - (48:Int)=(((s[1]'h1s).toNat - 48:Nat):Int)):=Lib.hid (by omega)
   clear hr ha hd
   go_enter Tryz.func282,Tryz.ntmps282
   go_wp2
   go_ret2
   exact ⟨((s[1]'h1s).toNat:Int) - (48:Int),by rw[HR.out];rfl,(fun r h=>by rw[HR.out] at h;rw[HE.out];exact Option.some.inj h),0,rfl⟩
  ·rw[if_neg (fun h=>hd h.2)] at hr
   have HR:=Lib.hid hr
   have hnd: ¬((48:Int)≤((s[1]'h1s).toNat:Int)∧((s[1]'h1s).toNat:Int)≤(57:Int)):=fun h=>hd ((digit_iff _).2 h)
   clear hr ha hd
   by_cases x1:(48:Int)≤((s[1]'h1s).toNat:Int)
   ·have t4:decide ((48:Int)≤((s[1]'h1s).toNat:Int))=true:=decide_eq_true x1
    have t5:decide (((s[1]'h1s).toNat:Int)≤(57:Int))=false:=decide_eq_false (by omega)
    clear hnd x1
    exact m19
   ·have t4:decide ((48:Int)≤((s[1]'h1s).toNat:Int))=false:=decide_eq_false x1
    clear hnd x1
    exact m19
 have t1:((s.size:Int)==2)=false:=beq_eq_false_iff_ne.2 (by omega)
 by_cases h3:s.size=3
 case neg=>
  have hr:regL s.data.toList=none:=by unfold regL;rw[if_neg];rw[len_list];omega
  have HR:=Lib.hid hr
  have t2:((s.size:Int)==3)=false:=beq_eq_false_iff_ne.2 (by omega)
  clear hr h3
  exact m19
 have hl:=list3 s h3
 have h0s:0<s.size:=by omega
 have h1s:1<s.size:=by omega
 have h2s:2<s.size:=by omega
 have hr:=regL3 (s[0]'h0s) (s[1]'h1s) (s[2]'h2s)
 rw[←hl] at hr
 have t2:((s.size:Int)==3)=true:=beq_iff_eq.2 (by omega)
 have h1I:(3:Int)≤(s.size:Int):=by omega
 clear hl h3 h2
 by_cases ha:s[0]'h0s=114
 case neg=>
  rw[if_neg (fun h=>ha h.1)] at hr
  have HR:=Lib.hid hr
  have t3:(((s[0]'h0s).toNat:Int)==114)=false:=beq_eq_false_iff_ne.2 (fun e=>ha ((eq_byte _ 114).1 e))
  clear hr ha
  exact m19
 have t3:(((s[0]'h0s).toNat:Int)==114)=true:=beq_iff_eq.2 ((eq_byte _ 114).2 ha)
 by_cases x1:(49:Int)≤((s[1]'h1s).toNat:Int)
 case neg=>
  rw[if_neg (fun h=>x1 (by omega))] at hr
  have HR:=Lib.hid hr
  have t4:decide ((49:Int)≤((s[1]'h1s).toNat:Int))=false:=decide_eq_false x1
  clear hr ha x1
  exact m19
 have t4:decide ((49:Int)≤((s[1]'h1s).toNat:Int))=true:=decide_eq_true x1
 by_cases x2:((s[1]'h1s).toNat:Int)≤(51:Int)
 case neg=>
  rw[if_neg (fun h=>x2 (by omega))] at hr
  have HR:=Lib.hid hr
  have t5:decide (((s[1]'h1s).toNat:Int)≤(51:Int))=false:=decide_eq_false x2
  clear hr ha x1 x2
  exact m19
 have t5:decide (((s[1]'h1s).toNat:Int)≤(51:Int))=true:=decide_eq_true x2
 by_cases hd:isDigit (s[2]'h2s)=true
 case neg=>
  rw[if_neg (fun h=>hd h.2.2.2.1)] at hr
  have HR:=Lib.hid hr
  have hnd: ¬((48:Int)≤((s[2]'h2s).toNat:Int)∧((s[2]'h2s).toNat:Int)≤(57:Int)):=fun h=>hd ((digit_iff _).2 h)
  clear hr ha hd x1 x2
  by_cases x1:(48:Int)≤((s[2]'h2s).toNat:Int)
  ·have t6:decide ((48:Int)≤((s[2]'h2s).toNat:Int))=true:=decide_eq_true x1
   have t7:decide (((s[2]'h2s).toNat:Int)≤(57:Int))=false:=decide_eq_false (by omega)
   clear hnd x1
   exact m19
  ·have t6:decide ((48:Int)≤((s[2]'h2s).toNat:Int))=false:=decide_eq_false x1
   clear hnd x1
   exact m19
 obtain ⟨d1,d2⟩:=(digit_iff _).1 hd
 have t6:decide ((48:Int)≤((s[2]'h2s).toNat:Int))=true:=decide_eq_true d1
 have t7:decide (((s[2]'h2s).toNat:Int)≤(57:Int))=true:=decide_eq_true d2
 have HX:Hid ((regL s.data.toList).isSome=decide (10* (((s[1]'h1s).toNat:Int) - (48:Int))+(((s[2]'h2s).toNat:Int) - (48:Int))<32)∧ ∀r,regL s.data.toList=some r→10* (((s[1]'h1s).toNat:Int) - (48:Int))+(((s[2]'h2s).toNat:Int) - (48:Int))=r):=Lib.hid (by
  by_cases hv:((s[1]'h1s).toNat - 48)*10+((s[2]'h2s).toNat - 48)<32
  ·rw[hr,if_pos ⟨ha,by omega,by omega,hd,hv⟩]
   exact ⟨(decide_eq_true (by omega)).symm,fun r h=>by have:=Option.some.inj h;omega⟩
  ·rw[hr,if_neg (fun h=>hv h.2.2.2.2)]
   exact ⟨(decide_eq_false (by omega)).symm,fun r h=>by cases h⟩)
 clear hr ha hd
 go_enter Tryz.func282,Tryz.ntmps282
 go_wp2
 go_quiet (fail)
 go_wp2
 go_ret2
 exact ⟨_,by rw[HX.out.1];rfl,HX.out.2,_,rfl⟩
end Go.Proofs.YtaangaogmnlljaaGreatDoor.Asm
namespace Go.Proofs.YtaangaogmnlljaaGreatDoor.Asm
open Go.RowKit
theorem a24.q31 {P:Prop} (h:P:=by
 go_enter Tryz.func229,Tryz.ntmps229
 go_wp2
 go_loop [3] (fun iv=> ∃k:Nat,k≤s.size∧iv= .int .i64 k∧Hid (∀j (hj:j<s.size),j<k→isName s[j]=true)) (fun iv=>s.size - (intOf iv).toNat)
 case atStart=>exact ⟨0,by omega,rfl,Lib.hid (fun j _ h=>by omega)⟩
 case round=>
  obtain ⟨k,hk,rfl,HD⟩:=hrel
  have hkI:(k:Int)≤(s.size:Int):=by omega
  by_cases hlt:k<s.size
  ·have hltI:(k:Int)<(s.size:Int):=by omega
   by_cases hdg:isName s[k]=true
   ·have HNx:Hid (∀j (hj:j<s.size),j<k+1→isName s[j]=true):=Lib.hid (fun j hj h2=>by
     by_cases e:j=k
     ·subst e;exact hdg
     ·exact HD.out j hj (by omega))
    have hor:=(name_iff _).1 hdg
    clear hdg
    rcases hor with ⟨d1,d2⟩ |⟨d1,d2⟩
    ·have c1:decide ((97:Int)≤(s[k].toNat:Int))=true:=decide_eq_true (by omega)
     have c2:decide ((s[k].toNat:Int)≤(122:Int))=true:=decide_eq_true (by omega)
     exact m58
    ·have c1:decide ((97:Int)≤(s[k].toNat:Int))=false:=decide_eq_false (by omega)
     have c2:decide ((48:Int)≤(s[k].toNat:Int))=true:=decide_eq_true (by omega)
     have c3:decide ((s[k].toNat:Int)≤(57:Int))=true:=decide_eq_true (by omega)
     exact m58
   ·have hr:=HNo.out k hlt (by simpa using hdg)
    have hnd: ¬((97≤(s[k].toNat:Int)∧(s[k].toNat:Int)≤122)∨(48≤(s[k].toNat:Int)∧(s[k].toNat:Int)≤57)):=fun h=>hdg ((name_iff _).2 h)
    have HR:=Lib.hid hr
    clear hdg hr
    by_cases x1:(s[k].toNat:Int)<97
    ·have c1:decide ((97:Int)≤(s[k].toNat:Int))=false:=decide_eq_false (by omega)
     by_cases x2:(s[k].toNat:Int)<48
     ·have c2:decide ((48:Int)≤(s[k].toNat:Int))=false:=decide_eq_false (by omega)
      clear hnd x1 x2
      go_wp2
      go_ret
      exact ⟨by rw[HR.out];rfl,0,rfl⟩
     ·have c2:decide ((48:Int)≤(s[k].toNat:Int))=true:=decide_eq_true (by omega)
      have c3:decide ((s[k].toNat:Int)≤(57:Int))=false:=decide_eq_false (by omega)
      clear hnd x1 x2
      go_wp2
      go_ret
      exact ⟨by rw[HR.out];rfl,0,rfl⟩
    ·have c1:decide ((97:Int)≤(s[k].toNat:Int))=true:=decide_eq_true (by omega)
     have c4:decide ((s[k].toNat:Int)≤(122:Int))=false:=decide_eq_false (by omega)
     have c2:decide ((48:Int)≤(s[k].toNat:Int))=true:=decide_eq_true (by omega)
     have c3:decide ((s[k].toNat:Int)≤(57:Int))=false:=decide_eq_false (by omega)
     clear hnd x1
     go_wp2
     go_ret
     exact ⟨by rw[HR.out];rfl,0,rfl⟩
  ·obtain rfl:k=s.size:=by omega
   have hfin:=HYes.out (fun j hj=>HD.out j hj hj)
   have HF:=Lib.hid hfin
   clear hfin
   go_wp2_with fail
   refine HRegC.out.mono ?_
   rintro e w' ⟨n,rfl,_,q,rfl⟩
   cases hr:regL s.data.toList with
   |none=>
    have HR:=Lib.hid hr
    clear hr
    simp only[Option.isSome_none]
    go_wp2
    go_ret
    exact ⟨by rw[HF.out,HR.out];rfl,q,rfl⟩
   |some r=>
    have HR:=Lib.hid hr
    clear hr
    simp only[Option.isSome_some]
    go_wp2
    go_ret
    exact ⟨by rw[HF.out,HR.out];rfl,q,rfl⟩):P:=h
theorem a24.q119 {P:Prop} (h:P:=by
 by_cases h3:isLow (s[0]'h0s)=true
 case neg=>
  have hr:namedL s.data.toList=false:=by
   unfold namedL;rw[head_list s h0s]
   simp[h3]
  have hnd: ¬(97≤((s[0]'h0s).toNat:Int)∧((s[0]'h0s).toNat:Int)≤122):=fun h=>h3 ((low_iff _).2 h)
  rw[hr]
  clear hr h3
  by_cases hlo:((s[0]'h0s).toNat:Int)<97
  ·clear hnd
   exact m50
  ·have hhi:(122:Int)<((s[0]'h0s).toNat:Int):=by omega
   clear hnd
   exact m50
 exact m31):P:=h
open a24 in
set_option maxRecDepth 100000 in
theorem rname_any (s:ByteArray) (w:World) (hs:s.size≤9223372036854775807):Calls Tryz.prog 229 #[.string s] w fun e w'=>e= .returned (.bool (namedL s.data.toList))∧ ∃q,w'=w.drewN q:=by
 have HRegC:=Lib.hid (rregister_any s w hs)
 have hsI:(s.size:Int)≤9223372036854775807:=by omega
 clear hs
 by_cases h1:s.size<1
 ·have hr:namedL s.data.toList=false:=by unfold namedL;rw[decide_eq_false (by rw[len_list];omega)];rfl
  have h1I:(s.size:Int)<1:=by omega
  rw[hr]
  clear hr
  exact m50
 by_cases h2:16<s.size
 ·have hr:namedL s.data.toList=false:=by unfold namedL;rw[decide_eq_false (by rw[len_list];omega)];rfl
  have h1I:(1:Int)≤(s.size:Int):=by omega
  have h2I:(16:Int)<(s.size:Int):=by omega
  rw[hr]
  clear hr
  exact m50
 exact m119
end Go.Proofs.YtaangaogmnlljaaGreatDoor.Asm
namespace Go.Proofs.YtaangaogmnlljaaGreatDoor.Asm
open Go.RowKit
theorem ix_at: ∀(l:Str) (k:Nat) (hk:k<l.length),l[k]=43→(∀j (hj:j<l.length),j<k→l[j]≠43)→Lib.indexByte l 43=k
 |[],k,hk,_,_=>absurd hk (by simp)
 |c::l,0,_,h,_=>by
  have:c=43:=h
  subst this
  simp[Lib.indexByte]
 |c::l,k+1,hk,h,hj=>by
  have h0:=hj 0 (by simp) (by omega)
  have hb:(c==43)=false:=by simpa using h0
  have ih:=ix_at l k (by simpa using hk) h (fun j hj1 hj2=>hj (j+1) (by simp;omega) (by omega))
  have hne:((k:Int)== -1)=false:=by rw[beq_eq_false_iff_ne];omega
  simp[Lib.indexByte,hb,ih]
theorem ix_no: ∀(l:Str),(∀j (hj:j<l.length),l[j]≠43)→Lib.indexByte l 43= -1
 |[],_=>rfl
 |c::l,h=>by
  have h0:=h 0 (by simp)
  have hb:(c==43)=false:=by simpa using h0
  have ih:=ix_no l (fun j hj=>h (j+1) (by simp;omega))
  simp[Lib.indexByte,hb,ih]
def RInsOut (w:World) (X:Nat) (y:InsL) (e:Ending) (w':World):Prop:=e= .returned (.pointer none)∧InsAt w' X y∧Keeps (fun i=>i=X) w w'
set_option maxRecDepth 100000 in
theorem rcell_any (R X:Nat) (x y:InsL) (s:ByteArray) (n:Int) (w:World) (hR:w.cell? ⟨R,4,none⟩=some (.int .i64 n)) (hx:InsAt w X x) (h:cellL x s.data.toList=some y) (hs:s.size≤1000000):
  Calls Tryz.prog 284 #[.pointer (some ⟨R,0,none⟩), .string s, .pointer (some ⟨X,0,none⟩)] w (RInsOut w X y):=by
 have hin: ∃T,innerL s.data.toList=some T:=by
  unfold cellL at h
  cases hi:innerL s.data.toList with
  |none=>rw[hi] at h;cases h
  |some T=>exact ⟨T,rfl⟩
 obtain ⟨T,hT⟩:=hin
 have hc:2≤s.size∧s.data.toList.head?=some 91∧s.data.toList.getLast?=some 93∧T=(s.data.toList.drop 1).dropLast:=by
  unfold innerL at hT
  split at hT
  ·rename_i hh
   exact ⟨by rw[←len_list];exact hh.1,hh.2.1,hh.2.2,(Option.some.inj hT).symm⟩
  ·cases hT
 obtain ⟨h2,hh,hl,rfl⟩:=hc
 have h0s:0<s.size:=by omega
 have h1s:s.size - 1<s.size:=by omega
 have b0:(((s[0]'h0s).toNat:Int) !=91)=false:=by
  rw[head_list s h0s] at hh
  rw[bne_eq_false_iff_eq];exact (eq_byte _ 91).2 (Option.some.inj hh)
 have b1:(((s[s.size - 1]'h1s).toNat:Int) !=93)=false:=by
  rw[List.getLast?_eq_getElem?,len_list,at_list s _ h1s] at hl
  rw[bne_eq_false_iff_eq];exact (eq_byte _ 93).2 (Option.some.inj hl)
 obtain ⟨t,ht⟩: ∃t,t=s.extract 1 (s.size - 1):=⟨_,rfl⟩
 have htl:t.data.toList=(s.data.toList.drop 1).dropLast:=by
  rw[ht,extract_list,List.dropLast_eq_take,List.length_drop,len_list]
 have htz:t.size=s.size - 2:=by rw[←len_list t,htl,List.length_dropLast,List.length_drop,len_list];omega
 have hsI:(s.size:Int)≤1000000:=by omega
 have h2I:(2:Int)≤(s.size:Int):=by omega
 have htb:t.size≤9223372036854775807:=by omega
 unfold cellL at h
 rw[hT] at h
 rw[←htl] at h
 dsimp only at h
 have HReg:=Lib.hid (rregister_any t w htb)
 have HT:=Lib.hid ht
 have htI:(t.size:Int)≤1000000:=by omega
 have HTb:=Lib.hid htb
 have HX:=Lib.hid hx
 have HR:=Lib.hid hR
 have HH:=Lib.hid h
 clear h hx hT hh hl ht htl htz htb h2 hR
 go_enter Tryz.func284,Tryz.ntmps284
 go_upto_block 0 with fail
 rw[←HT.out]
 go_cut [7] (fun pv wx=>pv= .int .i64 (Lib.indexByte t.data.toList 43)∧w=wx)
 case first=>
  go_wp2_with fail
  go_loop [7,8] (fun pv iv=> ∃k:Nat,k≤t.size∧iv= .int .i64 k∧((pv= .int .i64 (-1)∧Hid (∀j (hj:j<t.size),j<k→t[j]≠43))∨ ∃j:Nat,pv= .int .i64 (j:Int)∧k=j+1∧Hid (Lib.indexByte t.data.toList 43=j))) (fun _ iv=>t.size - (intOf iv).toNat)
  case atStart=>exact ⟨0,by omega,rfl,Or.inl ⟨rfl,Lib.hid fun _ _ h=>by omega⟩⟩
  case round=>
   obtain ⟨k,hk,rfl,⟨rfl,HN⟩ |⟨j,rfl,rfl,HJ⟩⟩:=hrel
   ·have hkI:(k:Int)≤(t.size:Int):=by omega
    by_cases hlt:k<t.size
    ·have hltI:(k:Int)<(t.size:Int):=by omega
     by_cases h43:t[k]=43
     ·have hb:((t[k].toNat:Int)==43)=true:=by rw[beq_iff_eq];exact (eq_byte _ 43).2 h43
      have HJ:Hid (Lib.indexByte t.data.toList 43=k):=Lib.hid (ix_at _ k (by rw[len_list];exact hlt) h43 (fun j hj h=>HN.out j (by rw[len_list] at hj;exact hj) h))
      clear h43
      go_wp2
      go_round
      case rel=>exact ⟨k+1,by omega,by go_num,Or.inr ⟨k,rfl,rfl,HJ⟩⟩
      case measure=>simp[intOf];omega
     ·have hb:((t[k].toNat:Int)==43)=false:=by rw[beq_eq_false_iff_ne];intro e;exact h43 ((eq_byte _ 43).1 e)
      have HN2:Hid (∀j (hj:j<t.size),j<k+1→t[j]≠43):=Lib.hid (fun j hj h=>by
       by_cases e:j=k
       ·subst e;exact h43
       ·exact HN.out j hj (by omega))
      clear h43
      go_wp2
      go_round
      case rel=>exact ⟨k+1,by omega,by go_num,Or.inl ⟨rfl,HN2⟩⟩
      case measure=>simp[intOf];omega
    ·obtain rfl:k=t.size:=by omega
     have HF:Hid (Lib.indexByte t.data.toList 43= -1):=Lib.hid (ix_no _ (fun j hj=>HN.out j (by rw[len_list] at hj;exact hj) (by rw[len_list] at hj;exact hj)))
     go_wp2_with fail
     go_meet
     exact ⟨by rw[HF.out],rfl⟩
   ·have hj0:(0:Int)≤(j:Int):=by omega
    have hd:decide ((j:Int)<0)=false:=decide_eq_false (by omega)
    have hkI:(j:Int)+1≤(t.size:Int):=by omega
    go_wp2_with fail
    all_goals
     go_meet
     exact ⟨by rw[HJ.out],rfl⟩
 case rest=>
  obtain ⟨rfl,hwc⟩:=hcut
  subst hwc
  go_wp2_with fail
  refine HReg.out.mono ?_
  rintro e w1 ⟨m,rfl,hm,q,hw1⟩
  have hx1:InsAt w1 X x:=by rw[hw1];exact HX.out
  have hK1:Keeps (fun i=>i=X) w w1:=by rw[hw1];exact (Keeps.refl _ w).drewN q
  have hR1:w1.cell? ⟨R,4,none⟩=some (.int .i64 n):=by rw[hw1];exact HR.out
  clear hw1 HReg
  obtain ⟨o0,o1,o2,o3,o4,o5,o6,of⟩:=hx1.cell
  have hlt:=hx1.lt
  have h:=HH.out
  cases hr:regL t.data.toList with
  |some r=>
   rw[hr] at h
   obtain rfl:=Option.some.inj h
   have HF:=Lib.hid (hx1.setB r)
   have HK:=Lib.hid (hK1.trans (keeps_set w1 X 2 (.int .i64 r)) (fun _ h=>Or.inl h))
   obtain rfl:=hm r hr
   clear h hr hm hx1 hK1 HH
   simp only[Option.isSome_some]
   go_wp2
   go_ret
   exact ⟨rfl,HF.out,HK.out⟩
  |none=>
   rw[hr] at h
   dsimp only at h
   clear hm
   simp only[Option.isSome_none]
   cases hp:splitPlus t.data.toList with
   |none=>
    rw[hp] at h
    dsimp only at h
    obtain ⟨v,hv,rfl⟩:=Option.map_eq_some_iff.1 h
    have HF:=Lib.hid ((hx1.setB (-1)).setV v)
    have HK:=Lib.hid ((hK1.trans (keeps_set w1 X 2 (.int .i64 (-1))) (fun _ h=>Or.inl h)).trans (keeps_set _ X 4 (.int .u64 v)) (fun _ h=>Or.inl h))
    have HIx:Hid (Lib.indexByte t.data.toList 43= -1):=Lib.hid (plus_none hp)
    have HNum:=Lib.hid (rnumber_any R n t v hv w1 hR1)
    clear h hr hx1 hK1 hp hv HH
    rw[HIx.out]
    go_wp2_with fail
    refine HNum.out.mono ?_
    rintro e w3 ⟨rfl,rfl⟩
    go_wp2
    go_ret
    exact ⟨rfl,HF.out,HK.out⟩
   |some pq=>
    obtain ⟨p,q⟩:=pq
    rw[hp] at h
    dsimp only at h
    obtain ⟨hix,htpq⟩:=plus_some hp
    have hrv: ∃r v,regL p=some r∧numL q=some v∧y={ x with b:=r,v:=v}:=by
     cases hrp:regL p with
     |none=>rw[hrp] at h;cases h
     |some r=>
      cases hvq:numL q with
      |none=>rw[hrp,hvq] at h;cases h
      |some v=>rw[hrp,hvq] at h;exact ⟨r,v,rfl,rfl,(Option.some.inj h).symm⟩
    obtain ⟨r,v,hrp,hvq,rfl⟩:=hrv
    obtain ⟨k,hk⟩: ∃k,k=p.length:=⟨_,rfl⟩
    have htz2:t.size=k+1+q.length:=by rw[←len_list t,htpq,List.length_append,List.length_cons,hk];omega
    obtain ⟨P,hP⟩: ∃P,P=t.extract 0 k:=⟨_,rfl⟩
    obtain ⟨Q,hQ⟩: ∃Q,Q=t.extract (k+1) t.size:=⟨_,rfl⟩
    have hPl:P.data.toList=p:=by rw[hP,extract_list,htpq,hk];simp
    have hQl:Q.data.toList=q:=by
     rw[hQ,extract_list,htpq,hk,htz2,hk]
     rw[show p++43::q=(p++ [43])++q by simp,List.drop_left' (by simp),List.take_of_length_le (by omega)]
    have hPz:P.size=k:=by rw[←len_list P,hPl,hk]
    have HIx:Hid (Lib.indexByte t.data.toList 43=(k:Int)):=Lib.hid (by rw[hk];exact hix)
    have HRp:Hid (regL P.data.toList=some r):=Lib.hid (by rw[hPl];exact hrp)
    have HRegP:=Lib.hid (rregister_any P w1 (by omega))
    have HQl:=Lib.hid (show numL Q.data.toList=some v by rw[hQl];exact hvq)
    have HP:=Lib.hid hP
    have HQ:=Lib.hid hQ
    have HX1:=Lib.hid hx1
    have HK1:=Lib.hid hK1
    have hk1:(k:Int)+1≤(t.size:Int):=by omega
    have hk2:k+1≤t.size:=by omega
    have hk0:(0:Int)≤(k:Int):=by omega
    have hd:decide ((0:Int)≤(k:Int))=true:=decide_eq_true (by omega)
    clear h hr hp hvq hrp hk hP hQ hPl hQl hPz hix htpq htz2 HH hx1 hK1
    rw[HIx.out]
    go_wp2_with fail
    rw[←HP.out]
    refine HRegP.out.mono ?_
    rintro e w3 ⟨m2,rfl,hm2,q2,hw3⟩
    obtain rfl:=hm2 r HRp.out
    clear hm2
    rw[HRp.out]
    simp only[Option.isSome_some]
    have hx3:InsAt w3 X x:=by rw[hw3];exact HX1.out
    have hK3:Keeps (fun i=>i=X) w w3:=by rw[hw3];exact HK1.out.drewN q2
    have hR3:w3.cell? ⟨R,4,none⟩=some (.int .i64 n):=by rw[hw3];exact hR1
    clear hw3 o0 o1 o2 o3 o4 o5 o6 of hlt
    obtain ⟨o0,o1,o2,o3,o4,o5,o6,of⟩:=hx3.cell
    have hlt:=hx3.lt
    have HNum:=Lib.hid (rnumber_any R n Q v HQl.out w3 hR3)
    have HF:=Lib.hid ((hx3.setB m2).setV v)
    have HK:=Lib.hid ((hK3.trans (keeps_set w3 X 2 (.int .i64 m2)) (fun _ h=>Or.inl h)).trans (keeps_set _ X 4 (.int .u64 v)) (fun _ h=>Or.inl h))
    clear hx3 hK3
    go_wp2_with fail
    rw[←HQ.out]
    refine HNum.out.mono ?_
    rintro e w4 ⟨rfl,rfl⟩
    go_wp2
    go_ret
    exact ⟨rfl,HF.out,HK.out⟩
end Go.Proofs.YtaangaogmnlljaaGreatDoor.Asm
namespace Go.Proofs.YtaangaogmnlljaaGreatDoor.Asm
open Go.RowKit
theorem cell_lt' {w:World} {p:Addr} {v:Value} (h:w.cell? p=some v):p.block<w.heap.size:=by
 exact m120
def markBody (x:InsL) (t:Str):Str×Int:=if endsWith t [61,48] then (t.take (t.length - 2),1) else if endsWith t [62,48] then (t.take (t.length - 2),2) else (t,x.w)
theorem mark_parts {x y:InsL} {s:Str} (h:markL x s=some y): ∃c t v,s=c::t∧numL (markBody x t).1=some v∧1≤v∧v≤99∧y={ x with w:=(markBody x t).2,m:=v}:=by
 cases s with
 |nil=>cases h
 |cons c t=>
  simp only[markL] at h
  change (match numL (markBody x t).1 with|none=>none|some v=>if v<1∨99<v then none else some { x with w:=(markBody x t).2,m:=v})=some y at h
  split at h
  ·cases h
  ·rename_i v hv
   split at h
   ·cases h
   ·exact ⟨c,t,v,rfl,hv,by omega,by omega,(Option.some.inj h).symm⟩
theorem ends_two (l:Str) (a b:UInt8):endsWith l [a,b]=(decide (2≤l.length)&& (l.drop (l.length - 2)== [a,b])):=by
 unfold endsWith
 rw[Bool.eq_iff_iff,List.isSuffixOf_iff_suffix]
 simp only[Bool.and_eq_true,decide_eq_true_eq,beq_iff_eq]
 constructor
 ·rintro ⟨p,rfl⟩
  simp
 ·rintro ⟨h1,h2⟩
  exact ⟨l.take (l.length - 2),by rw[←h2,List.take_append_drop]⟩
theorem cut_two (s:ByteArray) (h1:(2:Int)≤(s.size:Int)) (w:World):
  (Instr.slice 9 (.string s) none (some (.int .i64 ((s.size:Int) - 2))) none).run Tryz.prog w= .ok (.string (s.extract 0 (s.size - 2))) w:=by
 have e1:((s.size:Int) - 2).toNat=s.size - 2:=by omega
 have h2:(0:Int)≤(s.size:Int) - 2:=by omega
 have h3:(s.size:Int) - 2≤(s.size:Int):=by omega
 have hb: ∀code,(Instr.sliceBound (.int .i64 ((s.size:Int) - 2)) s.size code).run Tryz.prog w= .ok (s.size - 2) w:=by
  intro code
  rw[run_sliceBound _ _ _ _ _ h2 h3,e1]
 simp[Instr.slice,run_underlying Tryz.underlying9,Instr.sliceBounds,hb,go_sem]
set_option maxRecDepth 100000 in
theorem rmark_any (R X:Nat) (x y:InsL) (s:ByteArray) (n:Int) (w:World) (hRX:R≠X) (hR:w.cell? ⟨R,4,none⟩=some (.int .i64 n)) (hx:InsAt w X x) (h:markL x s.data.toList=some y) (hs:s.size≤1000000):
  Calls Tryz.prog 234 #[.pointer (some ⟨R,0,none⟩), .string s, .pointer (some ⟨X,0,none⟩)] w (RInsOut w X y):=by
 obtain ⟨c,tl,v,hsl,hv,hv1,hv2,rfl⟩:=mark_parts h
 have h1:1≤s.size:=by rw[←len_list,hsl];simp
 have h1I:(1:Int)≤(s.size:Int):=by omega
 have hsI:(s.size:Int)≤1000000:=by omega
 obtain ⟨t,ht⟩: ∃t,t=s.extract 1 s.size:=⟨_,rfl⟩
 have htl:t.data.toList=tl:=by rw[ht,extract_list,hsl,List.drop_one,List.tail_cons,List.take_of_length_le (by rw[←len_list,hsl];simp)]
 have htz:t.size=s.size - 1:=by rw[←len_list t,htl,←len_list s,hsl];simp
 have htI:(t.size:Int)≤1000000:=by omega
 have HT:=Lib.hid ht
 have hex: ∀(a b:UInt8),2≤t.size→((t.extract (t.size - 2) t.size).toList== [a,b])=endsWith tl [a,b]:=by
  intro a b h2
  rw[ends_two,bytes_toList,extract_list,htl,decide_eq_true (by rw[←htl,len_list];exact h2),Bool.true_and,show t.size=tl.length by rw[←len_list t,htl]]
  congr 1
  rw[List.take_of_length_le (by simp)]
 have hd1:decide (v<1)=false:=decide_eq_false (by omega)
 have hd2:decide (99<v)=false:=decide_eq_false (by omega)
 obtain ⟨o0,o1,o2,o3,o4,o5,o6,of⟩:=hx.cell
 have hlt:=hx.lt
 by_cases h2:2≤t.size
 ·have h2I:(2:Int)≤(t.size:Int):=by omega
  have hd0:decide ((2:Int)≤(t.size:Int))=true:=decide_eq_true h2I
  obtain ⟨u,hu⟩: ∃u,u=t.extract 0 (t.size - 2):=⟨_,rfl⟩
  have hul:u.data.toList=tl.take (tl.length - 2):=by rw[hu,extract_list,List.drop_zero,htl,←len_list t,htl,Nat.sub_zero]
  have q1:=hex 61 48 h2
  have q2:=hex 62 48 h2
  have hs2:=hs
  by_cases c1:endsWith tl [61,48]=true
  ·rw[c1] at q1
   clear q2 hex htz htl ht hsl h h1 hs h2 hs2
   have hb:markBody x tl=(tl.take (tl.length - 2),1):=by unfold markBody;rw[if_pos c1]
   rw[hb] at hv ⊢
   have hcut:=cut_two t h2I
   have hwr:IntKind.i64.wrap ((t.size:Int) - 2)=(t.size:Int) - 2:=IntWalk.i64_in _ (by omega)
   have HNum:=Lib.hid (fun (W:World) (hW:W.cell? ⟨R,4,none⟩=some (.int .i64 n))=>rnumber_any R n u v (by rw[hul];exact hv) W hW)
   have hx2:InsAt ((w.setCell ⟨X,6,none⟩ (.int .i64 1)).drew) X { x with w:=1}:=InsAt.setW (w:=w) hx 1
   have hR2:((w.setCell ⟨X,6,none⟩ (.int .i64 1)).drew).cell? ⟨R,4,none⟩=some (.int .i64 n):=(((keeps_set w X 6 (.int .i64 1)).cell (p:=⟨R,4,none⟩) (cell_lt' hR) hRX)).trans hR
   have hK2:Keeps (fun i=>i=X) w ((w.setCell ⟨X,6,none⟩ (.int .i64 1)).drew):=(keeps_set w X 6 _).drew
   have HU:=Lib.hid hu
   have HX2:=Lib.hid hx2
   have HR2:=Lib.hid hR2
   have HK2:=Lib.hid hK2
   clear c1 hb hv hul hu hx hx2 hR2 hK2 hR
   go_enter Tryz.func234,Tryz.ntmps234
   go_upto_region 2 with fail
   rw[←HT.out]
   go_wp2_with fail
   go_region
   go_wp2_with fail
   rw[←HU.out]
   generalize (w.setCell ⟨X,6,none⟩ (.int .i64 1)).drew=wq at HX2 HR2 HK2 ⊢
   exact m62
  ·have c1':endsWith tl [61,48]=false:=by simpa using c1
   rw[c1'] at q1
   by_cases c2:endsWith tl [62,48]=true
   ·rw[c2] at q2
    clear hex htz htl ht hsl h h1 hs h2 hs2
    have hb:markBody x tl=(tl.take (tl.length - 2),2):=by unfold markBody;rw[if_neg c1,if_pos c2]
    rw[hb] at hv ⊢
    have hcut:=cut_two t h2I
    have hwr:IntKind.i64.wrap ((t.size:Int) - 2)=(t.size:Int) - 2:=IntWalk.i64_in _ (by omega)
    have HNum:=Lib.hid (fun (W:World) (hW:W.cell? ⟨R,4,none⟩=some (.int .i64 n))=>rnumber_any R n u v (by rw[hul];exact hv) W hW)
    have hx2:InsAt ((w.setCell ⟨X,6,none⟩ (.int .i64 2)).drew) X { x with w:=2}:=InsAt.setW (w:=w) hx 2
    have hR2:((w.setCell ⟨X,6,none⟩ (.int .i64 2)).drew).cell? ⟨R,4,none⟩=some (.int .i64 n):=(((keeps_set w X 6 (.int .i64 2)).cell (p:=⟨R,4,none⟩) (cell_lt' hR) hRX)).trans hR
    have hK2:Keeps (fun i=>i=X) w ((w.setCell ⟨X,6,none⟩ (.int .i64 2)).drew):=(keeps_set w X 6 _).drew
    have HU:=Lib.hid hu
    have HX2:=Lib.hid hx2
    have HR2:=Lib.hid hR2
    have HK2:=Lib.hid hK2
    clear c1 c1' c2 hb hv hul hu hx hx2 hR2 hK2 hR
    go_enter Tryz.func234,Tryz.ntmps234
    go_upto_region 2 with fail
    rw[←HT.out]
    go_wp2_with fail
    go_region
    go_wp2_with fail
    rw[←HU.out]
    generalize (w.setCell ⟨X,6,none⟩ (.int .i64 2)).drew=wq at HX2 HR2 HK2 ⊢
    exact m62
   ·have c2':endsWith tl [62,48]=false:=by simpa using c2
    rw[c2'] at q2
    clear hex htz ht hsl h h1 hs h2 hs2
    have hb:markBody x tl=(tl,x.w):=by unfold markBody;rw[if_neg c1,if_neg c2]
    rw[hb] at hv ⊢
    have HNum:=Lib.hid (rnumber_any R n t v (by rw[htl];exact hv) w hR)
    have HX2:=Lib.hid hx
    clear hb hv hul hu c1 c1' c2 c2' htl hx hR
    exact m66
 ·have h2I:(t.size:Int)<2:=by omega
  have e1:endsWith tl [61,48]=false:=by rw[ends_two,decide_eq_false (by rw[←htl,len_list];exact h2),Bool.false_and]
  have e2:endsWith tl [62,48]=false:=by rw[ends_two,decide_eq_false (by rw[←htl,len_list];exact h2),Bool.false_and]
  clear hex htz ht hsl h h1 hs h2
  have hb:markBody x tl=(tl,x.w):=by unfold markBody;rw[e1,e2];rfl
  rw[hb] at hv ⊢
  have HNum:=Lib.hid (rnumber_any R n t v (by rw[htl];exact hv) w hR)
  have HX2:=Lib.hid hx
  clear hb hv e1 e2 htl hx hR
  exact m66
end Go.Proofs.YtaangaogmnlljaaGreatDoor.Asm
namespace Go.Proofs.YtaangaogmnlljaaGreatDoor.Asm
open Go.RowKit Go.Maps
def ROpdOut (w:World) (R rb:Nat) (vc vl vn vw:Value) (st:St) (ln X:Nat) (y:InsL) (o:Option Str) (e:Ending) (w':World):Prop:=
 e= .returned (.pointer none)∧InsAt w' X y∧ ∃vw',RP w' R rb vc vl vn vw' { st with wants:=st.wants++o.toList.map (fun t=>(st.code.length,ln,t))} ln∧Keeps (fun k=>k=X∨OfP R vc vl vn vw k) w w'∧ ∀k,vw'.ownBlock=some k→vw.ownBlock=some k∨w.heap.size≤k
section
variable {w w':World} {R rb ln:Nat} {vc vl vn vw:Value} {st:St} {X:Nat} {y:InsL}
theorem ropd_plain (h:RP w R rb vc vl vn vw st ln) (hX: ¬OfP R vc vl vn vw X) (hy:InsAt w' X y) (hk:Keeps (fun i=>i=X) w w'):ROpdOut w R rb vc vl vn vw st ln X y none (.returned (.pointer none)) w':=by
 exact m116
end
theorem a25.q5 {P:Prop} (h:P:=by
 obtain rfl:=hm r H1.out
 have HF:=Lib.hid (ropd_plain HP.out HNX.out (hx1.setA m) (hK1.trans (keeps_set w1 X 1 _) (fun _ h=>Or.inl h)))
 rw[H1.out]
 clear hm hx1 hK1 hc4
 simp only[Option.isSome_some]
 go_wp2
 go_ret
 exact HF.out):P:=h
theorem a25.q56 {P:Prop} (h:P:=by
 have H1:=Lib.hid hr
 clear hP hX hx hr hs
 exact m5):P:=h
open a25 in
set_option maxRecDepth 100000 in
theorem ropd_regA {w:World} {R rb ln:Nat} {vc vl vn vw:Value} {st:St} {X:Nat} {x:InsL} (hP:RP w R rb vc vl vn vw st ln) (hX: ¬OfP R vc vl vn vw X) (hx:InsAt w X x) (s:ByteArray) (hs:s.size≤100000) (r:Int) (hr:regL s.data.toList=some r):
  Calls Tryz.prog 233 #[.pointer (some ⟨R,0,none⟩), .int .i64 0, .string s, .pointer (some ⟨X,0,none⟩)] w (ROpdOut w R rb vc vl vn vw st ln X { x with a:=r} none):=by
 exact m56
theorem a26.q5 {P:Prop} (h:P:=by
 exact m77):P:=h
theorem a26.q56 {P:Prop} (h:P:=by
 have H1:=Lib.hid hr
 clear hP hX hx hr hs
 exact m5):P:=h
open a26 in
set_option maxRecDepth 100000 in
theorem ropd_regB {w:World} {R rb ln:Nat} {vc vl vn vw:Value} {st:St} {X:Nat} {x:InsL} (hP:RP w R rb vc vl vn vw st ln) (hX: ¬OfP R vc vl vn vw X) (hx:InsAt w X x) (s:ByteArray) (hs:s.size≤100000) (r:Int) (hr:regL s.data.toList=some r):
  Calls Tryz.prog 233 #[.pointer (some ⟨R,0,none⟩), .int .i64 1, .string s, .pointer (some ⟨X,0,none⟩)] w (ROpdOut w R rb vc vl vn vw st ln X { x with b:=r} none):=by
 exact m56
theorem a27.q5 {P:Prop} (h:P:=by
 exact m78):P:=h
theorem a27.q56 {P:Prop} (h:P:=by
 have H1:=Lib.hid hr
 clear hP hX hx hr hs
 exact m5):P:=h
open a27 in
set_option maxRecDepth 100000 in
theorem ropd_regC {w:World} {R rb ln:Nat} {vc vl vn vw:Value} {st:St} {X:Nat} {x:InsL} (hP:RP w R rb vc vl vn vw st ln) (hX: ¬OfP R vc vl vn vw X) (hx:InsAt w X x) (s:ByteArray) (hs:s.size≤100000) (r:Int) (hr:regL s.data.toList=some r):
  Calls Tryz.prog 233 #[.pointer (some ⟨R,0,none⟩), .int .i64 2, .string s, .pointer (some ⟨X,0,none⟩)] w (ROpdOut w R rb vc vl vn vw st ln X { x with c:=r} none):=by
 exact m56
theorem a28.q5 {P:Prop} (h:P:=by
 exact m77):P:=h
theorem a28.q56 {P:Prop} (h:P:=by
 have H1:=Lib.hid hr
 clear hP hX hx hr hs
 exact m5):P:=h
open a28 in
set_option maxRecDepth 100000 in
theorem ropd_orBr {w:World} {R rb ln:Nat} {vc vl vn vw:Value} {st:St} {X:Nat} {x:InsL} (hP:RP w R rb vc vl vn vw st ln) (hX: ¬OfP R vc vl vn vw X) (hx:InsAt w X x) (s:ByteArray) (hs:s.size≤100000) (r:Int) (hr:regL s.data.toList=some r):
  Calls Tryz.prog 233 #[.pointer (some ⟨R,0,none⟩), .int .i64 3, .string s, .pointer (some ⟨X,0,none⟩)] w (ROpdOut w R rb vc vl vn vw st ln X { x with b:=r} none):=by
 exact m56
theorem a29.q5 {P:Prop} (h:P:=by
 exact m78):P:=h
theorem a29.q56 {P:Prop} (h:P:=by
 have H1:=Lib.hid hr
 clear hP hX hx hr hs
 exact m5):P:=h
open a29 in
set_option maxRecDepth 100000 in
theorem ropd_orCr {w:World} {R rb ln:Nat} {vc vl vn vw:Value} {st:St} {X:Nat} {x:InsL} (hP:RP w R rb vc vl vn vw st ln) (hX: ¬OfP R vc vl vn vw X) (hx:InsAt w X x) (s:ByteArray) (hs:s.size≤100000) (r:Int) (hr:regL s.data.toList=some r):
  Calls Tryz.prog 233 #[.pointer (some ⟨R,0,none⟩), .int .i64 4, .string s, .pointer (some ⟨X,0,none⟩)] w (ROpdOut w R rb vc vl vn vw st ln X { x with c:=r} none):=by
 exact m56
theorem a30.q5 {P:Prop} (h:P:=by
 have HNum:=Lib.hid (rnumber_any R ln s v H1.out (w1.setCell ⟨X,2,none⟩ (.int .i64 m)) (((keeps_set w1 X 2 (.int .i64 m)).cell (p:=⟨R,4,none⟩) (cell_lt' hc4) (fun e=>HNX.out (Or.inl (Eq.symm e)))).trans hc4))
 have HF:=Lib.hid (ropd_plain HP.out HNX.out (((hx1.setB m).setV v).setB (-1)) (((hK1.trans (keeps_set w1 X 2 _) (fun _ h=>Or.inl h)).trans (keeps_set _ X 4 _) (fun _ h=>Or.inl h)).trans (keeps_set _ X 2 _) (fun _ h=>Or.inl h)))
 clear hm hx1 hK1 hc4
 rw[H2.out]
 simp only[Option.isSome_none]
 exact m59):P:=h
theorem a30.q56 {P:Prop} (h:P:=by
 have H1:=Lib.hid hv
 have H2:=Lib.hid hr
 clear hP hX hx hr hv hs
 exact m5):P:=h
open a30 in
set_option maxRecDepth 100000 in
theorem ropd_orBn {w:World} {R rb ln:Nat} {vc vl vn vw:Value} {st:St} {X:Nat} {x:InsL} (hP:RP w R rb vc vl vn vw st ln) (hX: ¬OfP R vc vl vn vw X) (hx:InsAt w X x) (s:ByteArray) (hs:s.size≤100000) (v:Int) (hr:regL s.data.toList=none) (hv:numL s.data.toList=some v):
  Calls Tryz.prog 233 #[.pointer (some ⟨R,0,none⟩), .int .i64 3, .string s, .pointer (some ⟨X,0,none⟩)] w (ROpdOut w R rb vc vl vn vw st ln X { x with b:= -1,v:=v} none):=by
 exact m56
theorem a31.q5 {P:Prop} (h:P:=by
 have HNum:=Lib.hid (rnumber_any R ln s v H1.out (w1.setCell ⟨X,3,none⟩ (.int .i64 m)) (((keeps_set w1 X 3 (.int .i64 m)).cell (p:=⟨R,4,none⟩) (cell_lt' hc4) (fun e=>HNX.out (Or.inl (Eq.symm e)))).trans hc4))
 have HF:=Lib.hid (ropd_plain HP.out HNX.out (((hx1.setC m).setV v).setC (-1)) (((hK1.trans (keeps_set w1 X 3 _) (fun _ h=>Or.inl h)).trans (keeps_set _ X 4 _) (fun _ h=>Or.inl h)).trans (keeps_set _ X 3 _) (fun _ h=>Or.inl h)))
 clear hm hx1 hK1 hc4
 rw[H2.out]
 simp only[Option.isSome_none]
 exact m59):P:=h
theorem a31.q56 {P:Prop} (h:P:=by
 have H1:=Lib.hid hv
 have H2:=Lib.hid hr
 clear hP hX hx hr hv hs
 exact m5):P:=h
open a31 in
set_option maxRecDepth 100000 in
theorem ropd_orCn {w:World} {R rb ln:Nat} {vc vl vn vw:Value} {st:St} {X:Nat} {x:InsL} (hP:RP w R rb vc vl vn vw st ln) (hX: ¬OfP R vc vl vn vw X) (hx:InsAt w X x) (s:ByteArray) (hs:s.size≤100000) (v:Int) (hr:regL s.data.toList=none) (hv:numL s.data.toList=some v):
  Calls Tryz.prog 233 #[.pointer (some ⟨R,0,none⟩), .int .i64 4, .string s, .pointer (some ⟨X,0,none⟩)] w (ROpdOut w R rb vc vl vn vw st ln X { x with c:= -1,v:=v} none):=by
 exact m56
theorem a32.q5 {P:Prop} (h:P:=by
 have HNum:=Lib.hid (rnumber_any R ln s v H1.out w1 (hc4))
 have HF:=Lib.hid (ropd_plain HP.out HNX.out (hx1.setV v) (hK1.trans (keeps_set w1 X 4 _) (fun _ h=>Or.inl h)))
 clear hm hx1 hK1 hc4
 generalize (regL s.data.toList).isSome=b
 exact m59):P:=h
theorem a32.q56 {P:Prop} (h:P:=by
 have H1:=Lib.hid hv
 clear hP hX hx hv hs
 exact m5):P:=h
open a32 in
set_option maxRecDepth 100000 in
theorem ropd_num {w:World} {R rb ln:Nat} {vc vl vn vw:Value} {st:St} {X:Nat} {x:InsL} (hP:RP w R rb vc vl vn vw st ln) (hX: ¬OfP R vc vl vn vw X) (hx:InsAt w X x) (s:ByteArray) (hs:s.size≤100000) (v:Int) (hv:numL s.data.toList=some v):
  Calls Tryz.prog 233 #[.pointer (some ⟨R,0,none⟩), .int .i64 7, .string s, .pointer (some ⟨X,0,none⟩)] w (ROpdOut w R rb vc vl vn vw st ln X { x with v:=v} none):=by
 exact m56
theorem a33.q5 {P:Prop} (h:P:=by
 have HX1:=Lib.hid hx1
 have HK1:=Lib.hid hK1
 clear hm hx1 hK1 o0 o1 o2 o3 o4 o5 o6 of hlt
 generalize (regL s.data.toList).isSome=b
 go_wp2_with fail
 refine (HNm.out _).mono ?_
 rintro e w2 ⟨rfl,q2,hw2⟩
 rw[H2.out]
 have hx2:InsAt w2 X x:=by rw[hw2];exact HX1.out
 have hK2:Keeps (fun i=>i=X) w w2:=by rw[hw2];exact HK1.out.drewN q2
 have hc2:w2.cell? ⟨R,4,none⟩=some (.int .i64 (ln:Int)):=by rw[hw2];exact hc4
 clear hw2
 obtain ⟨o0,o1,o2,o3,o4,o5,o6,of⟩:=hx2.cell
 have hlt:=hx2.lt
 have HNum:=Lib.hid (rnumber_any R ln s v H1.out w2 hc2)
 have HF:=Lib.hid (ropd_plain HP.out HNX.out (hx2.setV v) (hK2.trans (keeps_set w2 X 4 _) (fun _ h=>Or.inl h)))
 clear hx2 hK2 hc2
 exact m59):P:=h
theorem a33.q56 {P:Prop} (h:P:=by
 have H1:=Lib.hid hv
 have H2:=Lib.hid hn
 have HNm:=Lib.hid (fun w=>rname_any s w (by omega))
 clear hP hX hx hn hv hs
 exact m5):P:=h
open a33 in
set_option maxRecDepth 100000 in
theorem ropd_bothn {w:World} {R rb ln:Nat} {vc vl vn vw:Value} {st:St} {X:Nat} {x:InsL} (hP:RP w R rb vc vl vn vw st ln) (hX: ¬OfP R vc vl vn vw X) (hx:InsAt w X x) (s:ByteArray) (hs:s.size≤100000) (v:Int) (hn:namedL s.data.toList=false) (hv:numL s.data.toList=some v):
  Calls Tryz.prog 233 #[.pointer (some ⟨R,0,none⟩), .int .i64 8, .string s, .pointer (some ⟨X,0,none⟩)] w (ROpdOut w R rb vc vl vn vw st ln X { x with v:=v} none):=by
 exact m56
theorem a34.q5 {P:Prop} (h:P:=by
 have HC:=Lib.hid (rcell_any R X x y s ln w1 hc4 hx1 H1.out (by have:=hs2.out;omega))
 have HK1:=Lib.hid hK1
 clear hm hx1 hK1 hc4 o0 o1 o2 o3 o4 o5 o6 of hlt
 generalize (regL s.data.toList).isSome=b
 go_wp2_with fail
 refine HC.out.mono ?_
 rintro e w3 ⟨rfl,hy3,hk3⟩
 have HF:=Lib.hid (ropd_plain HP.out HNX.out hy3 (HK1.out.trans hk3 (fun _ h=>Or.inl h)))
 clear hy3 hk3
 go_wp2
 go_ret
 exact HF.out):P:=h
theorem a34.q56 {P:Prop} (h:P:=by
 have H1:=Lib.hid hy
 have hs2:=Lib.hid hs
 clear hP hX hx hy hs
 exact m5):P:=h
open a34 in
set_option maxRecDepth 100000 in
theorem ropd_cell {w:World} {R rb ln:Nat} {vc vl vn vw:Value} {st:St} {X:Nat} {x:InsL} (hP:RP w R rb vc vl vn vw st ln) (hX: ¬OfP R vc vl vn vw X) (hx:InsAt w X x) (s:ByteArray) (hs:s.size≤100000) (y:InsL) (hy:cellL x s.data.toList=some y):
  Calls Tryz.prog 233 #[.pointer (some ⟨R,0,none⟩), .int .i64 5, .string s, .pointer (some ⟨X,0,none⟩)] w (ROpdOut w R rb vc vl vn vw st ln X y none):=by
 exact m56
end Go.Proofs.YtaangaogmnlljaaGreatDoor.Asm
namespace Go.Proofs.YtaangaogmnlljaaGreatDoor.Kn
open Go.RowKit Go.Maps Asm
attribute [local go_sem] Oper.semAt_some
theorem wpListIn_append_run {F:Fence} {n:Nat} {P:Program} {w:World} {ops:Array Oper} {rest:List Oper} {o:Oper} {a:Act} {Q:Exit→Act→World→Prop}
  (hg:o.guard=none) (s x:Operand) (t:TypeId) (hop:o.op=Op.call { callee:=Callee.builtin Builtin.append,args:=#[s,x],argTypes:=#[t,t]}) {v u v':Value} {w':World} (hs:a.eval s=v) (hx:a.eval x=u)
  (hrun:(Builtin.append_ #[t,t] o.type #[v,u]).run P w= .ok v' w') (hK:wpListIn F n P ops Q rest (a.put o.dst v') w'):wpListIn F n P ops Q (o::rest) a w:=by
 refine wpListIn_plain hg fun K hK'=>?_
 unfold Oper.wpIn
 refine ⟨?_,?_⟩
 ·simp[Oper.about,hop,resolve,Target.leads,Sem.run_pure]
 ·rw[Oper.semAt_plain F _ _ (by rw[hop];intro c hc';cases hc')]
  simp[execOp,hop,resolve,invoke,builtin,hs,hx,hrun,Result.andThen]
  exact hK' _ _ hK
theorem copy_new {W:World} {t e:TypeId} {i:TypeInfo} {z:Value} {size bytes:Nat} (ht:Tryz.prog.underlying t=some (.slice e)) (hi:Tryz.prog.info? e=some i) (hz:i.zero=some z) (hsize:i.size=size) (hby:i.bytes=bytes) (hzs:z.cells.size=size) (hsz:0<size)
  {v:Value} {b2 m:Nat} {ys:List Value} (h:W.ownsRow b2 e size v m ys) (h1: ∀u∈ys,u.oneCell'=true) (hm:m≤maxLen) (hb:m*bytes≤140737488355328):
  ∃A c w1,(Builtin.append_ #[t,t] t #[.slice (some ⟨W.heap.size,0,none⟩) 0 0,v]).run Tryz.prog (W.alloc (.cells #[] e))= .ok (.slice A m c) w1∧w1.ownsRow W.heap.size e size (.slice A m c) m ys∧Below W.heap.size W w1:=by
 have hE:(W.alloc (.cells #[] e)).ownsRow W.heap.size e size (.slice (some ⟨W.heap.size,0,none⟩) 0 0) 0 []:=Go.Proofs.YtaangaogmnlljaaGreatDoor.own_empty W W.heap.size e size (Nat.le_refl _)
 have hY:(W.alloc (.cells #[] e)).ownsRow b2 e size v m ys:=Asm.ownsRow_of_block h fun k hk=>Below.heap_alloc _ _ _ (h.lt k hk).2
 obtain ⟨v',w1,q1,q2,q3,-⟩:=Go.Proofs.YtaangaogmnlljaaGreatDoor.app_row (P:=Tryz.prog) W.heap.size t t e i z size bytes ht hi hz hsize hby hzs hsz hE hY h1 (by omega) (by rw[Nat.zero_add];exact hb) (by simp)
 rw[Nat.zero_add,List.nil_append] at q2
 obtain ⟨A,c,rfl⟩:=Asm.own_shape q2
 exact ⟨A,c,w1,q1,q2,((Below.refl _ W).alloc (Nat.le_refl _) _).grown q3 (by simp) (fun k e=>by cases e;exact Nat.le_refl _)⟩
theorem row_cur {w:World} {base:Nat} {e:TypeId} {size n:Nat} {v:Value} {xs:List Value} (h:w.ownsRow base e size v n xs) (h0:0<n): ∃g c cur,v= .slice (some ⟨g,0,none⟩) n c∧base≤g∧w.heap[g]?=some (.cells cur e (0,0)):=by
 rcases h.2 with ⟨-,q⟩ |⟨g,c,cur,q1,q2,q3,-⟩
 ·omega
 ·exact ⟨g,c,cur,q1,q2,q3⟩
theorem blk_of_cell {w:World} {b i:Nat} {v:Value} (h:w.cell? ⟨b,i,none⟩=some v):b<w.heap.size:=by
 rcases Nat.lt_or_ge b w.heap.size with h1|h1
 ·exact h1
 ·simp[World.cell?,Array.getElem?_eq_none h1] at h
def encB (x:Blk):Array Value:=#[.agg #[.int .i64 x.pos, .int .i64 x.n, .int .i64 x.w]]
set_option maxRecDepth 100000 in
theorem blocks1_in (n:Nat) (hn:1≤n) (l0 Bh A X:Nat) (v:Value) (a:Alc) (hl:a.l.length≤65536) (n0:Nat) (J Jx:List Blk→World→Prop)
  (W:World) (hJ:AbidesFrom W.heap.size J) (hn0:n0≤W.heap.size)
  (hY: ∀pre x W1,J pre W1→pre.length<a.l.length→YieldAt Fence.wide (n - 1) Tryz.prog l0 (encB x) W1 fun e W'=>
   (e= .returned (.bool true)∧J (pre++ [x]) W'∧CellsKeep n0 W1 W')∨(e= .returned (.bool false)∧Jx (pre++ [x]) W'))
  (hBh:W.cell? ⟨Bh,0,none⟩=some (.pointer (some ⟨A,0,none⟩))) (hR:AlcP W A X v a) (h0:J [] W):
  CallsIn Fence.wide n Tryz.prog 213 #[.func (.yield l0) #[] #[], .pointer (some ⟨Bh,0,none⟩)] W fun e W'=>(∃v,e= .returned v)∧
   ((∃xs,xs=a.l∧J xs W')∨(∃pre,pre<+:a.l∧Jx pre W')):=by
 obtain ⟨i3,hi3,hz3,hs3,hb3⟩:=info_parts info345
 obtain ⟨m,hm⟩: ∃m,m=a.l.length:=⟨_,rfl⟩
 have hrow:=hR.row
 rw[←hm] at hrow hl hY
 obtain ⟨A0,c0,hv⟩:=Asm.own_shape hrow
 obtain ⟨A1,c1,w1,hrun,hrow1,hbel⟩:=copy_new (t:=425) Tryz.underlying425 hi3 hz3 hs3 hb3 rfl (by decide) hrow (blkC_one _) (by unfold maxLen;omega) (by omega)
 have hA3:W.cell? ⟨A,3,none⟩=some v:=blk_cell hR.obj 3
 have hAl:=hR.lt
 have hBl:=blk_of_cell hBh
 subst hv
 have hmI:(m:Int)≤65536:=by omega
 have hJ1:J [] w1:=hJ [] W w1 none h0 ⟨hbel.os,hbel.tape,hbel.output,hbel.size,fun k hk _=>hbel.block k hk⟩ (fun r e=>by cases e)
 have HRun:=Lib.hid hrun
 have HY:=Lib.hid hY
 have HJ:=Lib.hid hJ
 have HM:=Lib.hid hm
 have HR1:=Lib.hid hrow1
 have HJ1:=Lib.hid hJ1
 have HN:=Lib.hid (Nat.le_trans hn0 (Nat.le_refl _))
 have hcur:0<m→ ∃g cur,A1=some ⟨g,0,none⟩∧n0≤g∧w1.heap[g]?=some (.cells cur 308 (0,0))∧W.heap.size≤g:=fun hp=>by
  obtain ⟨g,c,cur,q1,q2,q3⟩:=row_cur hrow1 hp
  injection q1 with q1
  exact ⟨g,cur,q1,by omega,q3,q2⟩
 have HCur:=Lib.hid hcur
 clear hrun hY hJ hm hrow1 hl hrow hbel hJ1 hcur hR h0
 refine callsIn_of_wp Tryz.func213 rfl trivial ?_ rfl
 simp only[Tryz.ntmps213,List.size_toArray,List.length_cons,List.length_nil,Nat.reduceAdd,Nat.reduceSub,Array.replicate_succ,Array.replicate_zero,List.push_toArray,List.append_toArray,List.nil_append,List.cons_append]
 gi_wp2_with (gi_at_builtin;refine wpListIn_append_run rfl (.tmp 5) (.tmp 9) 425 rfl rfl rfl HRun.out ?_)
 gi_loopw [12] (fun i wr=> ∃k:Nat,k≤m∧i= .int .i64 k∧Hid (J (a.l.take k) wr)∧Hid (∀g,A1=some ⟨g,0,none⟩→W.heap.size≤g→wr.heap[g]?=w1.heap[g]?∧(g<w1.heap.size→g<wr.heap.size))) (fun i _=>m - (intOf i).toNat)
 case atStart=>exact ⟨0,by omega,rfl,Lib.hid (by rw[List.take_zero];exact HJ1.out),Lib.hid fun g _ _=>⟨rfl,fun h=>h⟩⟩
 case round=>
  obtain ⟨k,hk,rfl,HJk,HBk⟩:=hrel
  by_cases hlt:k<m
  ·obtain ⟨g,cur,rfl,hg0,hcur,hgW⟩:=HCur.out (by omega)
   obtain ⟨hb1,hbl⟩:=HBk.out g rfl hgW
   have hbl:=hbl (blk_in hcur)
   have hkl:k<a.l.length:=by rw[←HM.out];exact hlt
   obtain ⟨y0,y1,y2⟩:=blkC_at hkl
   have hx:bAt a.l k=a.l[k]:=by unfold bAt;rw[List.getD_eq_getElem?_getD,List.getElem?_eq_getElem hkl];rfl
   have cell: ∀j u,(blkC a.l)[j]?=some u→wr.cell? ⟨g,j,none⟩=some u:=fun j u hu=>(World.cell?_of_block (w:=w1) (a:=⟨g,j,none⟩) hb1).trans (by
    have:=HR1.out.cells rfl j _ hu
    rwa[Addr.add_lit,Nat.zero_add] at this)
   have d0:=cell _ _ y0
   have d1:=cell _ _ y1
   have d2:=cell _ _ y2
   have hsnoc:a.l.take (k+1)=a.l.take k++ [bAt a.l k]:=by rw[List.take_add_one,List.getElem?_eq_getElem hkl,hx];rfl
   generalize bAt a.l k=x at d0 d1 d2 hsnoc
   have HSn:=Lib.hid hsnoc
   obtain ⟨xp,xn,xw⟩:=x
   dsimp only at d0 d1 d2
   have hJ':J (a.l.take k) (wr.alloc (.cells #[.int .i64 xp, .int .i64 xn, .int .i64 xw] 308)):=HJ.out _ wr _ none HJk.out (World.grownBy_alloc wr _ none) (fun r e=>by cases e)
   obtain ⟨fn,tmps,assign,body,hy,hR⟩:=HY.out (a.l.take k) ⟨xp,xn,xw⟩ _ hJ' (by rw[List.length_take,←HM.out];omega)
   unfold encB at hy
   dsimp only at hy
   have HR:=Lib.hid hR
   have hkI:(k:Int)<(m:Int):=by omega
   clear y0 y1 y2 hx hsnoc hJ' hR cell hA3
   gi_wp2_with fail
   refine HR.out.mono ?_
   rintro e w4 (⟨rfl,hJ3,hk3⟩ |⟨rfl,hJx3⟩)
   ·have h1:(wr.alloc (.cells #[.int .i64 xp, .int .i64 xn, .int .i64 xw] 308)).heap[g]?=some (.cells cur 308 (0,0)):=(Below.heap_alloc _ _ _ hbl).trans (hb1.trans hcur)
    have hb4:w4.heap[g]?=w1.heap[g]?:=by rw[hk3.2 g _ _ _ hg0 h1,hcur]
    have hs4:g<w4.heap.size:=blk_in (hb4.trans hcur)
    have HJ3:=Lib.hid hJ3
    have HB4:=Lib.hid hb4
    clear hJ3 hk3 hb4 h1
    gi_wp2
    go_roundw
    case rel=>exact ⟨k+1,by omega,by go_num,Lib.hid (by rw[HSn.out];exact HJ3.out),Lib.hid fun g2 e _=>by injection e with e;injection e with e;subst e;exact ⟨HB4.out,fun _=>hs4⟩⟩
    case measure=>simp[intOf];omega
   exact m107
  ·obtain rfl:k=m:=by omega
   gi_wp2
   go_end0
   refine ⟨⟨_,rfl⟩, .inl ⟨_,rfl,?_⟩⟩
   have:=HJk.out
   rwa[List.take_of_length_le (by rw[←HM.out];exact Nat.le_refl _)] at this
theorem blocks_in (n:Nat) (a:Addr) (w:World):
  CallsIn Fence.wide n Tryz.prog 144 #[.pointer (some a)] w fun e w'=>e= .returned (.func (.func 213) #[] #[.pointer (some ⟨w.heap.size,0,none⟩)])∧w.alloc (.cells #[.pointer (some a)] 150)=w':=by
 refine callsIn_of_wp Tryz.func144 rfl trivial ?_ rfl
 simp only[Tryz.ntmps144,List.size_toArray,List.length_cons,List.length_nil,Nat.reduceAdd,Nat.reduceSub,Array.replicate_succ,Array.replicate_zero,List.push_toArray,List.append_toArray,List.nil_append,List.cons_append]
 gi_wp2
 go_ret
 exact ⟨rfl,rfl⟩
theorem blocks_stops (n:Nat) (hn:1≤n) (Bh A X:Nat) (v:Value) (a:Alc) (hl:a.l.length≤65536) (n0:Nat) (w:World) (hn0:n0≤w.heap.size)
  (hBh:w.cell? ⟨Bh,0,none⟩=some (.pointer (some ⟨A,0,none⟩))) (hBl:Bh<w.heap.size) (hR:AlcP w A X v a):
  SeqStopsK Fence.wide n Tryz.prog 213 #[.pointer (some ⟨Bh,0,none⟩)] encB (CellsKeep n0) (fun xs=>xs=a.l) (fun pre=>pre<+:a.l) a.l.length w:=fun l0 J Jx W hW hJ _ hY h0=>
 blocks1_in n hn l0 Bh A X v a hl n0 J Jx W hJ (Nat.le_trans hn0 hW.size) hY ((hW.cell (p:=⟨Bh,0,none⟩) hBl).trans hBh) (hR.of_blocks fun k hk=>hW.block k (by
  rcases hk with rfl|hk
  ·exact hR.lt
  ·exact (hR.row.lt k hk).2)) h0
theorem wrap_64 (x:Int):IntKind.i64.wrap x=wrap64 x:=by rw[IntKind.wrap_i64];unfold wrap64;first|rfl|omega
def sumB (l:List Blk):Int:=l.foldl (fun s x=>IntKind.i64.wrap (s+(x.n:Int))) 0
theorem sumB_app (l:List Blk) (x:Blk):sumB (l++ [x])=IntKind.i64.wrap (sumB l+(x.n:Int)):=by simp[sumB,List.foldl_append]
theorem sumB_from: ∀(l:List Blk) (s:Nat),s+(l.map (·.n)).sum≤4000000000→l.foldl (fun s x=>IntKind.i64.wrap (s+(x.n:Int))) (s:Int)=((s+(l.map (·.n)).sum:Nat):Int)
 |[],s,_=>by simp
 |x::l,s,h=>by
  rw[List.map_cons,List.sum_cons] at h
  rw[List.foldl_cons,List.map_cons,List.sum_cons]
  have e:IntKind.i64.wrap ((s:Int)+(x.n:Int))=((s+x.n:Nat):Int):=by rw[IntKind.wrap_i64];omega
  rw[e,sumB_from l (s+x.n) (by omega)]
  congr 1
  omega
theorem sumB_used {a:Alc} (h:usedA a≤4000000000):sumB a.l=(usedA a:Int):=by
 have:=sumB_from a.l 0 (by unfold usedA at h;omega)
 unfold sumB usedA
 simpa using this
set_option maxRecDepth 100000 in
theorem used_in (n:Nat) (hn:4≤n) {w:World} {A X:Nat} {v:Value} {a:Alc} (hR:AlcP w A X v a) (hl:a.l.length≤65536) (hu:usedA a≤4000000000):
  CallsIn Fence.wide n Tryz.prog 70 #[.pointer (some ⟨A,0,none⟩)] w fun e w'=>e= .returned (.int .i64 (usedA a:Int))∧Below w.heap.size w w':=by
 have h1:1≤n:=by omega
 have hAl:=hR.lt
 refine callsIn_of_wp_marks Tryz.func70 rfl trivial ?_ rfl
 simp only[Tryz.ntmps70,List.size_toArray,List.length_cons,List.length_nil,Nat.reduceAdd,Nat.reduceSub,Array.replicate_succ,Array.replicate_zero,List.push_toArray,List.append_toArray,List.nil_append,List.cons_append]
 gi_wp2_with fail
 refine ⟨trivial,?_⟩
 refine (blocks_in (n - 1) _ _).mono ?_
 rintro e w' ⟨rfl,rfl⟩
 gi_wp2
 have hB0:Below w.heap.size w ((w.alloc (.cells #[.int .i64 0] 3)).alloc (.cells #[.pointer (some ⟨A,0,none⟩)] 150)):=((Below.refl _ w).alloc (Nat.le_refl _) _).alloc (by simp) _
 have hc0:((w.alloc (.cells #[.int .i64 0] 3)).alloc (.cells #[.pointer (some ⟨A,0,none⟩)] 150)).cell? ⟨w.heap.size,0,none⟩=some (.int .i64 0):=by
  exact m89
 have hf0:((w.alloc (.cells #[.int .i64 0] 3)).alloc (.cells #[.pointer (some ⟨A,0,none⟩)] 150)).frozen? ⟨w.heap.size,0,none⟩=false:=by
  exact m84
 have hc1:((w.alloc (.cells #[.int .i64 0] 3)).alloc (.cells #[.pointer (some ⟨A,0,none⟩)] 150)).cell? ⟨w.heap.size+1,0,none⟩=some (.pointer (some ⟨A,0,none⟩)):=World.cell?_alloc_at _ _ _ _ (by simp)
 have hR2:AlcP ((w.alloc (.cells #[.int .i64 0] 3)).alloc (.cells #[.pointer (some ⟨A,0,none⟩)] 150)) A X v a:=hR.of_blocks fun k hk=>hB0.block k (by
  rcases hk with rfl|hk
  ·exact hAl
  ·exact (hR.row.lt k hk).2)
 refine wpIn_rangeFunc_ownH rfl h1 (gf:=213) (lb:=#[.pointer (some ⟨w.heap.size+1,0,none⟩)]) rfl trivial (enters_of Tryz.func213 (by kernel_rfl) rfl)
  (blocks_stops (n - 1) (by omega) (w.heap.size+1) A X v a hl (w.heap.size+2) _ (by simp) hc1 (by simp) hR2) (fun h k=>CellsKeep.t h k) (fun W l o o' hl h ho hw=>CellsKeep.b W l o o' hl h ho hw) (Below.refl _ _) (fun _=>rfl)
  (fun pre W=>(W.cell? ⟨w.heap.size,0,none⟩=some (.int .i64 (sumB pre))∧W.frozen? ⟨w.heap.size,0,none⟩=false)∧Below w.heap.size w W)
  (fun _ _ _=>False)
  (OwnFrom.and (Own.from (fun s A B row hs hg hr=>⟨cell_kept hs.1 hg hr,(frozen_kept hs.1 hg hr).trans hs.2⟩) _) (ownFrom_below (Nat.le_refl _) (by simp;omega)))
  (fun _ _ _ _ _ hs _ _=>hs)
  ⟨⟨hc0,hf0⟩,hB0⟩
  (fun x a' W=> ∃bx,w.heap.size<bx∧W.heap[bx]?=some (.cells #[.int .i64 x.pos, .int .i64 x.n, .int .i64 x.w] 308 (0,0))∧a'={ tmps:=#[.pointer (some ⟨A,0,none⟩),undef, .int .i64 0, .pointer (some ⟨w.heap.size,0,none⟩), .pointer (some ⟨bx,0,none⟩), .pointer (some ⟨A,0,none⟩), .func (.func 213) #[] #[.pointer (some ⟨w.heap.size+1,0,none⟩)], .agg #[.int .i64 x.pos, .int .i64 x.n, .int .i64 x.w],undef,undef,undef,undef,undef],defers:= []})
  (fun x a' _ X Y row ⟨bx,q1,q2,q3⟩ hg hr=>⟨bx,q1,(hg.block bx (blk_in q2) (fun e=>by obtain ⟨-,o,ho,hc⟩:=hr bx e.symm;rw[q2] at ho;cases ho;cases hc)).trans q2,q3⟩)
  ?assign ?body ?done ?stop
 case assign=>
  rintro l pre x W K ⟨⟨hc,hf⟩,hB⟩ hK
  have e:(#[7]:Array Nat).zip (encB x)=#[(7, .agg #[.int .i64 x.pos, .int .i64 x.n, .int .i64 x.w])]:=by kernel_rfl
  have hbl:w.heap.size<W.heap.size:=blk_of_cell hc
  rw[e]
  gi_wp2
  refine hK _ _ ((KeepsOthers.alloc _ _).from _) ⟨by simp,fun k c t fr hk hcc=>(Below.heap_alloc _ _ _ (blk_in hcc)).trans hcc⟩ ⟨⟨?_,?_⟩,hB.alloc hB.size _⟩ ⟨_,hbl,heap_alloc_new W _,rfl⟩
  ·rw[World.cell?_alloc_lt _ _ ⟨w.heap.size,0,none⟩ hbl];exact hc
  ·rw[World.frozen?_alloc_old _ _ ⟨w.heap.size,0,none⟩ (by show w.heap.size≠W.heap.size;omega)];exact hf
 case body=>
  rintro l1 pre x a' W hl1 ⟨r,hlr⟩ ⟨⟨hc,hf⟩,hB⟩ ⟨bx,hbx,hbo,rfl⟩ hpre
  have hsn:=sumB_app pre x
  obtain ⟨xp,xn,xw⟩:=x
  dsimp only at hsn hbo
  generalize sumB pre=q at hc hsn
  have HB:=Lib.hid hB
  have HS:=Lib.hid hsn
  have d1:W.cell? ⟨bx,1,none⟩=some (.int .i64 (xn:Int)):=blk_cell hbo 1
  have hbl:w.heap.size<W.heap.size:=blk_of_cell hc
  have hbl2:=blk_in hbo
  clear hpre hB hsn hbo hlr
  gi_wp2
  refine ⟨(KeepsOthers.setCell _ _ _).from _,⟨by simp[World.setCell],fun k c t fr hk hcc=>(Below.heap_setCell _ _ _ _ (by show k≠w.heap.size;omega)).trans hcc⟩,⟨?_,by rw[World.frozen?_setCell];exact hf⟩,HB.out.setCell (p:=⟨w.heap.size,0,none⟩) (Nat.le_refl _) _⟩
  rw[HS.out,wrap_64]
  exact World.cell?_setCell_same' _ _ _ (by rw[hc];rfl)
 case done=>
  rintro D ys W hD rfl ⟨⟨hc,hf⟩,hB⟩ hK
  rw[sumB_used hu] at hc
  exact m87
 case stop=>
  rintro D c pre W _ _ h _
  exact h.elim
end Go.Proofs.YtaangaogmnlljaaGreatDoor.Kn
