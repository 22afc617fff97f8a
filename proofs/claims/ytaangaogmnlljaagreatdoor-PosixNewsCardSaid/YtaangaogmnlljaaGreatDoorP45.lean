/- Part 45 of what the proof stands on: RdNewY, PosNewsWalk, NewsOpen. -/
import Derived.Test.YtaangaogmnlljaaGreatDoorP42
import Derived.Test.YtaangaogmnlljaaGreatDoorP43
import Derived.Test.YtaangaogmnlljaaGreatDoorP44
set_option linter.unusedVariables false
set_option maxRecDepth 100000
set_option maxHeartbeats 40000000
namespace Go.Proofs.YtaangaogmnlljaaGreatDoor.Kn
open Go.RowKit Go.Maps Asm Errs PosTab
theorem clientE_two {l:List InsL} {entry wide narrow:Int} {y:ErrK} (h:clientE l entry wide narrow=some y):y.1.length≤2:=by
 unfold clientE at h
 split at h
 ·injection h with h
  subst h
  simp
 ·unfold againK at h
  cases hc:checkK l with
  |none=>
   rw[hc] at h
   unfold placeK at h
   simp only[Option.map_none] at h
   split at h
   ·injection h with h
    subst h
    simp
   ·cases h
  |some x=>
   obtain ⟨n,e⟩:=checkK_one hc
   rw[hc] at h
   simp only[Option.map_some] at h
   injection h with h
   subst h
   simp[e]
set_option maxRecDepth 100000 in
theorem r24_over {code:List InsL} {labels:List (Str×Nat)} (hp:parseL (linesL textL)=some (code,labels)) (hlab:labels.length≤3000) {w:World} {kw kc entry wide narrow:Int} {pv0:Value} {n:Nat} {Ap:Option Addr} {cp:Nat} (hpv:pv0= .slice Ap n cp) (P Q:Value→Value→World→Prop)
  (hN: ∀W vc vr,Below w.heap.size w W→W.ownsRow 0 68 7 vc code.length (codeC code)→W.ownsRow 0 184 6 vr 45 (rowsC labels tab)→Calls Tryz.prog 31 #[.agg #[.int .i64 kw, .int .i64 kc], .agg #[vc, .int .i64 (loopOf labels:Int),vr], .agg #[pv0, .int .i64 entry, .int .i64 wide, .int .i64 narrow]] W fun e w'=> ∃a b,e= .returned (.tuple #[a,b])∧P a b w'∧Below W.heap.size W w')
  (hI: ∀a b W,P a b W→Calls Tryz.prog 33 #[.string posixS, .int .i64 0,b] W fun e w'=> ∃b',e= .returned b'∧Q a b' w'∧Below W.heap.size W w'):
  Calls Tryz.prog 9 #[.agg #[.int .i64 kw, .int .i64 kc], .agg #[pv0, .int .i64 entry, .int .i64 wide, .int .i64 narrow]] w fun e w'=> ∃a b,e= .returned (.tuple #[a,b])∧Q a b w'∧Below w.heap.size w w':=by
 subst hpv
 obtain ⟨l0,l1,hb0⟩:=laid2 w (.cells #[.int .i64 kw, .int .i64 kc] 23) (.cells #[.slice Ap n cp, .int .i64 entry, .int .i64 wide, .int .i64 narrow] 26)
 obtain ⟨wA,hwA⟩: ∃wA,wA=(w.alloc (.cells #[.int .i64 kw, .int .i64 kc] 23)).alloc (.cells #[.slice Ap n cp, .int .i64 entry, .int .i64 wide, .int .i64 narrow] 26):=⟨_,rfl⟩
 rw[←hwA] at l0 l1 hb0
 have HLib:=Lib.hid (fun W=>rlib_any hp hlab W)
 have HB0:=Lib.hid hb0
 have HNw:=Lib.hid hN
 have HIn:=Lib.hid hI
 unfold posixS at HIn
 have HY:Hid (∀W,Below wA.heap.size wA W→W.cell? ⟨w.heap.size,0,none⟩=some (.int .i64 kw)∧W.cell? ⟨w.heap.size,1,none⟩=some (.int .i64 kc)∧W.cell? ⟨w.heap.size+1,0,none⟩=some (.slice Ap n cp)∧W.cell? ⟨w.heap.size+1,1,none⟩=some (.int .i64 entry)∧W.cell? ⟨w.heap.size+1,2,none⟩=some (.int .i64 wide)∧W.cell? ⟨w.heap.size+1,3,none⟩=some (.int .i64 narrow)):=Lib.hid fun W hW=>by
  have k0:=(hW.block _ (blk_in l0)).trans l0
  have k1:=(hW.block _ (blk_in l1)).trans l1
  exact ⟨blk_cell k0 0,blk_cell k0 1,blk_cell k1 0,blk_cell k1 1,blk_cell k1 2,blk_cell k1 3⟩
 obtain ⟨a0,a1,p0,p1,p2,p3⟩:=HY.out wA (Below.refl _ _)
 have HBr:Hid (Below wA.heap.size wA wA.drew):=Lib.hid (bel_dr (Below.refl _ _))
 clear hp hlab hN hI l0 l1 hb0
 go_enter Tryz.func9,Tryz.ntmps9
 go_upto_region 1 with fail
 try rw[←hwA]
 clear hwA
 go_region_held3 (fun W=>W.cell? ⟨w.heap.size,0,none⟩=some (.int .i64 kw)∧W.cell? ⟨w.heap.size,1,none⟩=some (.int .i64 kc)∧W.cell? ⟨w.heap.size+1,0,none⟩=some (.slice Ap n cp)∧W.cell? ⟨w.heap.size+1,1,none⟩=some (.int .i64 entry)∧W.cell? ⟨w.heap.size+1,2,none⟩=some (.int .i64 wide)∧W.cell? ⟨w.heap.size+1,3,none⟩=some (.int .i64 narrow))
  (first|with_reducible exact ⟨a0,a1,p0,p1,p2,p3⟩ |exact HY.out _ HBr.out|exact HY.out _ HB3.out|exact HY.out _ HB2.out|go_keep)
  (first
   |(go_at_call 32;refine (HLib.out _).mono ?_;rintro e w2 ⟨vc,vr,rfl,hc,hr,hb2⟩;have HB2:=Lib.hid (HBr.out.trans (hb2.mono HBr.out.size));have HR2:=Lib.hid (And.intro (Asm.row_base hc (Nat.zero_le _)) (Asm.row_base hr (Nat.zero_le _)));obtain ⟨Ac,cc,rfl⟩:=Asm.own_shape hc;obtain ⟨Ar,cr,rfl⟩:=Asm.own_shape hr;clear hc hr hb2 a0 a1 p0 p1 p2 p3)
   |(go_at_call 31;refine (HNw.out _ _ _ (HB0.out.trans (HB2.out.mono HB0.out.size)) HR2.out.1 HR2.out.2).mono ?_;rintro e w3 ⟨a,b,rfl,hP,hb3⟩;have HB3:=Lib.hid (HB2.out.trans (hb3.mono HB2.out.size));have HP:=Lib.hid hP;clear hP hb3))
 all_goals
  go_wp2_with fail
  refine (HIn.out _ _ _ HP.out).mono ?_
  rintro e w4 ⟨b',rfl,hQ,hb4⟩
  have HQ:=Lib.hid (And.intro hQ (HB0.out.trans ((HB3.out.trans (hb4.mono HB3.out.size)).mono HB0.out.size)))
  clear hQ hb4
  go_wp2_with fail
  go_ret2
  exact ⟨_,_,rfl,HQ.out.1,HQ.out.2⟩
section
variable {code:List InsL} {labels:List (Str×Nat)}
theorem lib_rows {W:World} {vc vr:Value} (hc:W.ownsRow 0 68 7 vc code.length (codeC code)) (hr:W.ownsRow 0 184 6 vr 45 (rowsC labels tab)): ∃Ac cc Ar cr,vc= .slice Ac code.length cc∧vr= .slice Ar (libCalls labels).length cr∧W.ownsRow 0 68 7 (.slice Ac code.length cc) code.length (codeC code)∧W.ownsRow 0 184 6 (.slice Ar (libCalls labels).length cr) (libCalls labels).length (callC (libCalls labels)):=by
 obtain ⟨Ac,cc,rfl⟩:=Asm.own_shape hc
 obtain ⟨Ar,cr,rfl⟩:=Asm.own_shape hr
 refine ⟨Ac,cc,Ar,cr,rfl,by rw[calls_len],hc,?_⟩
 rw[calls_len,calls_rows]
 exact hr
theorem r24_any (hp:parseL (linesL textL)=some (code,labels)) (hlab:labels.length≤3000) {w:World} {prog:List InsL} {wide narrow entry:Int} {k cells:Nat} (hF:FixOk (libF code labels prog wide narrow k)) {Ap:Option Addr} {n cp:Nat} (he:0≤entry∧entry<prog.length) (hroom:(libF code labels prog wide narrow k).base+wide+narrow+1≤cells) (hcells:cells≤65536) (hce:clientE prog entry wide narrow=none)
  (hs:Src w Ap n prog) (hA:Ap=none→cp=0):
  Calls Tryz.prog 9 #[.agg #[.int .i64 (k:Int), .int .i64 (cells:Int)], .agg #[.slice Ap n cp, .int .i64 entry, .int .i64 wide, .int .i64 narrow]] w (NewOk w (libF code labels prog wide narrow k) cells entry):=by
 obtain rfl:=hs.len
 refine (r24_over hp hlab rfl (fun a b W=>b= .pointer none∧ ∃G:RG,a= .pointer (some ⟨G.K,0,none⟩)∧Fresh (libF code labels prog wide narrow k) cells entry W G) (fun a b W=>b= .pointer none∧ ∃G:RG,a= .pointer (some ⟨G.K,0,none⟩)∧Fresh (libF code labels prog wide narrow k) cells entry W G) (fun W vc vr hW hc hr=>?_) (fun a b W h=>?_)).mono ?_
 ·obtain ⟨Ac,cc,Ar,cr,rfl,rfl,hc,hr⟩:=lib_rows hc hr
  have hsW:=hs.below hW
  refine (rdnew_any (libF code labels prog wide narrow k) hF hc hr (fun V hV=>?_) (fun V hV=>rcopyprogO (hsW.below hV) hA) he hroom hcells).mono ?_
  ·have q:=rdclientS (c:=cp) (entry:=entry) (wide:=wide) (narrow:=narrow) (hsW.below hV)
   rw[hce] at q
   exact q
  ·rintro e w' ⟨G,rfl,hf,hb⟩
   exact ⟨_,_,rfl,⟨rfl,G,rfl,hf⟩,hb⟩
 ·obtain ⟨rfl,G,rfl,hf⟩:=h
  refine (in_nil posixS 0 W).mono ?_
  rintro e w' ⟨rfl,rfl⟩
  exact ⟨_,rfl,⟨rfl,G,rfl,hf⟩,Below.refl _ _⟩
 ·rintro e w' ⟨a,b,rfl,⟨rfl,G,rfl,hf⟩,hb⟩
  exact ⟨G,rfl,hf,hb⟩
theorem r24_fails (hp:parseL (linesL textL)=some (code,labels)) (hlab:labels.length≤3000) {w:World} {prog:List InsL} {wide narrow entry kw kc:Int} {Ap:Option Addr} {n cp:Nat} {x:ErrK} (hpc: ∀x∈prog,U64 x.v) (hx:newE kw kc prog entry wide narrow=some x)
  (hs:Src w Ap n prog) (hA:Ap=none→cp=0):
  Calls Tryz.prog 9 #[.agg #[.int .i64 kw, .int .i64 kc], .agg #[.slice Ap n cp, .int .i64 entry, .int .i64 wide, .int .i64 narrow]] w (RNewFail w ((posixS,0)::x.1,x.2)):=by
 have HF:=fix_ok (LibGood.of hp) (prog:= [{ op:=16}]) (by decide) (by decide) (by intro x hx;simp at hx;subst hx;exact ⟨by decide,by unfold U64;decide⟩) (wide:=0) (narrow:=0) (by decide) (k:=1) (by decide)
 have hxl:0<x.1.length∧x.1.length≤1000:=by
  unfold newE at hx
  split at hx
  ·injection hx with hx;subst hx;exact ⟨Nat.one_pos,by simp⟩
  ·split at hx
   ·injection hx with hx;subst hx;exact ⟨Nat.one_pos,by simp⟩
   ·split at hx
    ·rename_i y hy
     injection hx with hx
     subst hx
     have h2:=clientE_two hy
     simp
     omega
    ·split at hx
     ·injection hx with hx;subst hx;exact ⟨Nat.one_pos,by simp⟩
     ·cases hx
 obtain rfl:=hs.len
 refine (r24_over hp hlab rfl (fun a b W=>a= .pointer none∧IsFail W x.1 x.2 b) (fun a b W=>a= .pointer none∧IsFail W ((posixS,0)::x.1) x.2 b) (fun W vc vr hW hc hr=>?_) (fun a b W h=>?_)).mono ?_
 ·obtain ⟨Ac,cc,Ar,cr,rfl,rfl,hc,hr⟩:=lib_rows hc hr
  have hsW:=hs.below hW
  refine Calls.mono (R:=RNewFail W x) ?_ (fun e w' ⟨v,h1,h2,h3⟩=>⟨_,_,h1,⟨rfl,h2⟩,h3⟩)
  by_cases hg:1≤kw∧kw≤64∧1≤kc∧kc≤65536∧clientE prog entry wide narrow=none
  ·obtain ⟨g1,g2,g3,g4,g5⟩:=hg
   obtain ⟨c1,c2,c3,c4,c5,c6,c7,c8⟩:=clientE_none g5
   obtain ⟨k,rfl⟩: ∃k:Nat,kw=(k:Int):=⟨kw.toNat,by omega⟩
   obtain ⟨cells,rfl⟩: ∃k:Nat,kc=(k:Int):=⟨kc.toNat,by omega⟩
   have hF:=fix_ok (LibGood.of hp) (prog:=prog) c4 c5 (fun x hx=>⟨c6 x hx,hpc x hx⟩) (wide:=wide) (narrow:=narrow) ⟨c1,c2,c3⟩ (k:=k) (by omega)
   have hroom: ¬(libF code labels prog wide narrow k).base+wide+narrow+1≤cells∧x=([(kernS,0)],3):=by
    unfold newE at hx
    rw[if_neg (by omega),if_neg (by omega),g5] at hx
    simp only at hx
    split at hx
    ·rename_i hlt
     injection hx with hx
     refine ⟨?_,hx.symm⟩
     show¬(17+8* (k:Int))+wide+narrow+1≤cells
     omega
    ·cases hx
   rw[hroom.2]
   refine rdnew_room (libF code labels prog wide narrow k) hF hc hr (fun V hV=>?_) (fun V hV=>rcopyprogO (hsW.below hV) hA) ⟨c7,c8⟩ hroom.1 (by omega)
   have q:=rdclientS (c:=cp) (entry:=entry) (wide:=wide) (narrow:=narrow) (hsW.below hV)
   rw[g5] at q
   exact q
  ·obtain ⟨gl,cl',ql,hcl,hgl⟩:=row_code hc HF.lib.1
   refine rdnew_bad (fun V hV=>?_) (fun V hV=>?_) hx hg
   ·have e:Ac=some ⟨gl,0,none⟩:=by injection ql
    subst e
    exact rdlib_ok (hcl.below hgl hV) (Nat.lt_of_lt_of_le hgl hV.size) rfl HF.lib.1 HF.lib.2 HF.libs HF.loop rfl HF.few (ownsRow_of_block hr fun b e=>hV.block b (hr.lt b e).2) HF.nod HF.calls
   ·exact rdclientS (hsW.below hV)
 ·obtain ⟨rfl,hf⟩:=h
  refine (rin_any posixS 0 hf hxl.1 hxl.2).mono ?_
  rintro e w' ⟨v,rfl,hv,hb⟩
  exact ⟨v,rfl,⟨rfl,hv⟩,hb⟩
 ·rintro e w' ⟨a,b,rfl,⟨rfl,hf⟩,hb⟩
  exact ⟨b,rfl,hf,hb⟩
end
end Go.Proofs.YtaangaogmnlljaaGreatDoor.Kn
namespace Go.Proofs.YtaangaogmnlljaaGreatDoor.Kn
open Go.RowKit Go.Maps Asm Errs PosTab
noncomputable def newsBody:Code:=(Tryz.f3.body).getD .skip
theorem clientE_kind {l:List InsL} {entry wide narrow:Int} {y:ErrK} (h:clientE l entry wide narrow=some y):1≤y.2∧y.2≤10:=by
 unfold clientE at h
 split at h
 ·injection h with h
  subst h
  decide
 ·unfold againK checkK placeK at h
  split at h
  ·rename_i x hx
   split at hx
   ·injection hx with hx
    injection h with h
    subst h
    subst hx
    show (1:Int)≤3∧(3:Int)≤10
    decide
   ·cases hb:badK l with
    |none=>rw[hb] at hx;cases hx
    |some i=>
     rw[hb] at hx
     injection hx with hx
     injection h with h
     subst h
     subst hx
     show (1:Int)≤5∧(5:Int)≤10
     decide
  ·split at h
   ·injection h with h
    subst h
    show (1:Int)≤5∧(5:Int)≤10
    decide
   ·cases h
theorem newE_small {kw kc:Int} {l:List InsL} {entry wide narrow:Int} {x:ErrK} (h:newE kw kc l entry wide narrow=some x):(1≤x.2∧x.2≤10)∧x.1.length≤10:=by
 unfold newE at h
 split at h
 ·injection h with h;subst h;exact ⟨by decide,by simp⟩
 ·split at h
  ·injection h with h;subst h;exact ⟨by decide,by simp⟩
  ·split at h
   ·rename_i y hy
    injection h with h
    subst h
    have h2:=clientE_two hy
    have q:=clientE_kind hy
    exact ⟨q,by simp;omega⟩
   ·split at h
    ·injection h with h;subst h;exact ⟨by decide,by simp⟩
    ·cases h
structure NewsI (w0 w:World) (b0 b1:Nat) (kw kc:Int) (Ap:Option Addr) (n cp:Nat) (entry wide narrow:Int) (prog:List InsL):Prop where
 b:Below w0.heap.size w0 w
 c:w.heap[b0]?=some (.cells #[.int .i64 kw, .int .i64 kc] 23 (0,0))
 p:w.heap[b1]?=some (.cells #[.slice Ap n cp, .int .i64 entry, .int .i64 wide, .int .i64 narrow] 26 (0,0))
 s:Src w Ap n prog
 d:Door w
 m:MaxDoor w
 ml:1<w.heap.size
theorem NewsI.below {w0 w w':World} {b0 b1:Nat} {kw kc:Int} {Ap:Option Addr} {n cp:Nat} {entry wide narrow:Int} {prog:List InsL} (h:NewsI w0 w b0 b1 kw kc Ap n cp entry wide narrow prog) (k:Below w.heap.size w w'):NewsI w0 w' b0 b1 kw kc Ap n cp entry wide narrow prog:=
 ⟨h.b.trans (k.mono h.b.size),(k.block _ (blk_in h.c)).trans h.c,(k.block _ (blk_in h.p)).trans h.p,h.s.below k,h.d.below k (door_pos h.d),h.m.below k h.ml,Nat.lt_of_lt_of_le h.ml k.size⟩
theorem NewsI.cells {w0 W:World} {b0 b1:Nat} {kw kc:Int} {Ap:Option Addr} {n cp:Nat} {entry wide narrow:Int} {prog:List InsL} (h:NewsI w0 W b0 b1 kw kc Ap n cp entry wide narrow prog):W.cell? ⟨b0,0,none⟩=some (.int .i64 kw)∧W.cell? ⟨b0,1,none⟩=some (.int .i64 kc)∧W.cell? ⟨b1,0,none⟩=some (.slice Ap n cp)∧W.cell? ⟨b1,1,none⟩=some (.int .i64 entry)∧W.cell? ⟨b1,2,none⟩=some (.int .i64 wide)∧W.cell? ⟨b1,3,none⟩=some (.int .i64 narrow):=
 ⟨blk_cell h.c 0,blk_cell h.c 1,blk_cell h.p 0,blk_cell h.p 1,blk_cell h.p 2,blk_cell h.p 3⟩
theorem a106.q115 {P:Prop} (h:P:=by
 go_region_held3 (fun W=>W.cell? ⟨b0,0,none⟩=some (.int .i64 (k:Int))∧W.cell? ⟨b0,1,none⟩=some (.int .i64 (cells:Int))∧W.cell? ⟨b1,0,none⟩=some (.slice Ap n cp)∧W.cell? ⟨b1,1,none⟩=some (.int .i64 entry)∧W.cell? ⟨b1,2,none⟩=some (.int .i64 wide)∧W.cell? ⟨b1,3,none⟩=some (.int .i64 narrow))
  (first|with_reducible exact ⟨a0,a1,p0,p1,p2,p3⟩ |exact HI4.out.cells|exact HI3.out.cells|exact HI0.out.cells)
  (first
   |(go_at_call 8;refine (HCp.out _ HI0.out).mono ?_;rintro e w3 ⟨A',c',rfl,r3,b3⟩;have HI3:=Lib.hid (HI0.out.below b3);have HR3:=Lib.hid (Asm.row_base r3 (Nat.zero_le _));clear r3 b3 a0 a1 p0 p1 p2 p3)
   |(go_at_call 7;refine (HN.out _ _ _ HI3.out HR3.out).mono ?_;rintro e w4 ⟨G,own,rfl,k4,b4,hX⟩;have HI4:=Lib.hid (HI3.out.below b4);have HK4:=Lib.hid (And.intro k4 (Nat.le_trans HI3.out.b.size hX));clear k4 b4 hX))
 all_goals
  go_wp2_with fail
  conv=>arg 2;whnf
  obtain ⟨a0,a1,p0,p1,p2,p3⟩:=HI4.out.cells
  go_wp2_with fail
  refine (HR.out _ HI4.out).mono ?_
  rintro e w5 ⟨R,rfl,hf,b5⟩
  have HI5:=Lib.hid (HI4.out.below b5)
  have HT5:Hid (Two F cells entry G R w5):=Lib.hid ⟨⟨_,HK4.out.1.below b5⟩,hf⟩
  clear hf b5 a0 a1 p0 p1 p2 p3
  go_wp2_with fail
  refine (HSm.out _ _ _ HT5.out).mono ?_
  rintro e w6 ⟨rfl,ht6,k6⟩
  have hb6:Below w0.heap.size w0 w6:=Keeps.below HI5.out.b k6 HI5.out.b.size (fun i e=>by subst e;exact HK4.out.2)
  have HB6:=Lib.hid hb6
  have HD6:Hid (Door w6):=Lib.hid (by
   have hd:=HI5.out.d
   have hX:G.X≠0:=fun e=>by have:=HK4.out.2;omega
   exact (World.cell?_of_block (k6.block 0 (door_pos hd) (fun e=>hX e.symm))).trans hd)
  have HT6:=Lib.hid ht6
  clear ht6 k6 hb6
  have HLv:Hid (Calls Tryz.prog 11 #[.pointer (some ⟨G.K,0,none⟩)] w6 fun e w'=>e= .returned (.int .i64 1)∧Below w6.heap.size w6 w'):=Lib.hid (by
   obtain ⟨own6,hK6⟩:=HT6.out.k
   exact living0 hK6 (all1 _) (by show (1:Int)≠4;decide))
  go_wp2_with fail
  refine HLv.out.mono ?_
  rintro e w7 ⟨rfl,b7⟩
  have HB7:=Lib.hid (HB6.out.trans (b7.mono HB6.out.size))
  have HAw:=Lib.hid (awake_true w7 (HD6.out.below b7 (door_pos HD6.out)))
  clear b7
  go_wp2_with fail
  refine HAw.out.mono ?_
  rintro e w8 ⟨rfl,b8⟩
  have HB8:=Lib.hid (HB7.out.trans (b8.mono HB7.out.size))
  clear b8
  go_wp2_with fail
  go_ret
  exact ⟨rfl,HB8.out⟩):P:=h
open a106 in
set_option maxRecDepth 100000 in
theorem news_good {code:List InsL} {labels:List (Str×Nat)} (hp:parseL (linesL textL)=some (code,labels)) (hlab:labels.length≤3000) {w0 w:World} {b0 b1 n cp:Nat} {kw kc entry wide narrow:Int} {Ap:Option Addr} {prog:List InsL}
  (h0:0<w0.heap.size) (h:NewsI w0 w b0 b1 kw kc Ap n cp entry wide narrow prog) (hA:Ap=none→cp=0) (hpc: ∀x∈prog,U64 x.v) (hwb: -9223372036854775808≤wide∧wide≤9223372036854775807) (hx:newE kw kc prog entry wide narrow=none)
  (u0 u1 u4 u5 u6 u7 u8 u9 u10 u11 u12 u13 u14 u15 u16 u17 u18 u19 u20 u21 u22 u23 u24 u25 u26 u27 u28 u29 u30 u31 u32 u33 u34 u35 u36 u37 u38 u39 u40 u41 u42 u43 u44 u45 u46 u47 u48 u49 u50 u51 u52 u53 u54 u55 u56 u57 u58 u59 u60 u61 u62 u63 u64 u65:Value):(tailC 2 newsBody).wp Tryz.prog (bodyPost Tryz.prog Tryz.f3 (fun e w'=>e= .returned (.bool true)∧Below w0.heap.size w0 w')) ⟨#[u0,u1, .pointer (some ⟨b0,0,none⟩), .pointer (some ⟨b1,0,none⟩),u4,u5,u6,u7,u8,u9,u10,u11,u12,u13,u14,u15,u16,u17,u18,u19,u20,u21,u22,u23,u24,u25,u26,u27,u28,u29,u30,u31,u32,u33,u34,u35,u36,u37,u38,u39,u40,u41,u42,u43,u44,u45,u46,u47,u48,u49,u50,u51,u52,u53,u54,u55,u56,u57,u58,u59,u60,u61,u62,u63,u64,u65],[]⟩ w:=by
 have hr: ∃k cells:Nat,kw=(k:Int)∧kc=(cells:Int)∧1≤k∧k≤64∧cells≤65536∧clientE prog entry wide narrow=none∧ ¬(kc<17+8*kw+wide+narrow+1):=by
  unfold newE at hx
  split at hx
  ·cases hx
  ·split at hx
   ·cases hx
   ·split at hx
    ·cases hx
    ·rename_i h1 h2 o hc
     split at hx
     ·cases hx
     ·rename_i hlt
      exact ⟨kw.toNat,kc.toNat,by omega,by omega,by omega,by omega,by omega,hc,hlt⟩
 obtain ⟨k,cells,rfl,rfl,hk1,hk2,hcl,hce,hlt⟩:=hr
 obtain ⟨c1,c2,c3,c4,c5,c6,c7,c8⟩:=clientE_none hce
 have hF:FixOk (libF code labels prog wide narrow k):=fix_ok (LibGood.of hp) (prog:=prog) c4 c5 (fun x hx=>⟨c6 x hx,hpc x hx⟩) (wide:=wide) (narrow:=narrow) ⟨c1,c2,c3⟩ (k:=k) ⟨hk1,hk2⟩
 have hroomI:(libF code labels prog wide narrow k).base+wide+narrow+1≤cells:=by
  show (17+8* (k:Int))+wide+narrow+1≤cells
  omega
 have hroom:loN (libF code labels prog wide narrow k)+1≤cells:=by
  show 17+8*k+wide.toNat+narrow.toNat+1≤cells
  omega
 obtain ⟨F,hFe⟩: ∃F,F=libF code labels prog wide narrow k:=⟨_,rfl⟩
 have hFw:F.workers≤64:=by rw[hFe];exact hk2
 have HN:Hid (∀W A' c',NewsI w0 W b0 b1 k cells Ap n cp entry wide narrow prog→W.ownsRow 0 68 7 (.slice A' n c') n (codeC prog)→Calls Tryz.prog 7 #[.agg #[.int .i64 (k:Int), .int .i64 (cells:Int)], .agg #[.slice A' n c', .int .i64 entry, .int .i64 wide, .int .i64 narrow]] W fun e w'=> ∃G own',e= .returned (.tuple #[.pointer (some ⟨G.K,0,none⟩), .nilIface])∧KernP F w' own' G (newA F cells entry) 3∧Below W.heap.size W w'∧W.heap.size≤G.X):=Lib.hid fun W A' c' hI hrow=>by
  have hn:=hI.s.len
  subst hn
  refine (pnew_any hp hlab hI.m hI.ml hF ⟨c7,c8⟩ hroomI hcl hrow).mono ?_
  rintro e w' ⟨G,own',rfl,hK,hb,ho⟩
  rw[newK_eq _ _ hroom,←hFe] at hK
  refine ⟨G,own',rfl,hK,hb,?_⟩
  obtain ⟨gc,gw,-,hm⟩:=hK.mem
  rcases Nat.lt_or_ge G.X W.heap.size with h|h
  ·have:=ho G.X h
   rw[hm G.X (Or.inl rfl)] at this
   cases this
  ·exact h
 have HR:Hid (∀W,NewsI w0 W b0 b1 k cells Ap n cp entry wide narrow prog→Calls Tryz.prog 9 #[.agg #[.int .i64 (k:Int), .int .i64 (cells:Int)], .agg #[.slice Ap n cp, .int .i64 entry, .int .i64 wide, .int .i64 narrow]] W (NewOk W F cells entry)):=Lib.hid fun W hI=>by
  rw[hFe]
  exact r24_any hp hlab hF ⟨c7,c8⟩ hroomI hcl hce hI.s hA
 have HCp:Hid (∀W,NewsI w0 W b0 b1 k cells Ap n cp entry wide narrow prog→Calls Tryz.prog 8 #[.agg #[.slice Ap n cp, .int .i64 entry, .int .i64 wide, .int .i64 narrow]] W fun e w'=> ∃A' c',e= .returned (.agg #[.slice A' n c', .int .i64 entry, .int .i64 wide, .int .i64 narrow])∧w'.ownsRow W.heap.size 68 7 (.slice A' n c') n (codeC prog)∧Below W.heap.size W w'):=Lib.hid fun W hI=>rcopyprogO hI.s hA
 rw[←hFe] at hroom
 have HSm:Hid (∀W G R,Two F cells entry G R W→Calls Tryz.prog 13 #[.pointer (some ⟨G.K,0,none⟩), .pointer (some ⟨R.K,0,none⟩)] W (SameOk F cells entry G R W)):=Lib.hid fun W G R hT=>same_any hT hroom hcl hFw
 have HI:=Lib.hid h
 have HI0:=Lib.hid (h.below (bel_dr (Below.refl _ _)))
 obtain ⟨a0,a1,p0,p1,p2,p3⟩:=HI.out.cells
 clear h hx hpc hwb hk1 hk2 hcl hce hlt c1 c2 c3 c4 c5 c6 c7 c8 hF hroomI hroom hFw hp hlab
 clear hFe
 exact m115
theorem a107.q115 {P:Prop} (h:P:=by
 go_region_held3 (fun W=>W.cell? ⟨b0,0,none⟩=some (.int .i64 kw)∧W.cell? ⟨b0,1,none⟩=some (.int .i64 kc)∧W.cell? ⟨b1,0,none⟩=some (.slice Ap n cp)∧W.cell? ⟨b1,1,none⟩=some (.int .i64 entry)∧W.cell? ⟨b1,2,none⟩=some (.int .i64 wide)∧W.cell? ⟨b1,3,none⟩=some (.int .i64 narrow))
  (first|with_reducible exact ⟨a0,a1,p0,p1,p2,p3⟩ |exact HI4.out.cells|exact HI3.out.cells|exact HI0.out.cells)
  (first
   |(go_at_call 8;refine (HCp.out _ HI0.out).mono ?_;rintro e w3 ⟨A',c',rfl,r3,b3⟩;have HI3:=Lib.hid (HI0.out.below b3);have HR3:=Lib.hid (Asm.row_base r3 (Nat.zero_le _));clear r3 b3 a0 a1 p0 p1 p2 p3)
   |(go_at_call 7;refine (HN.out _ _ _ HI3.out HR3.out).mono ?_;rintro e w4 ⟨ev,rfl,e4,b4⟩;have HI4:=Lib.hid (HI3.out.below b4);have HE4:=Lib.hid e4;clear e4 b4))
 all_goals
  go_wp2_with fail
  conv=>arg 2;whnf
  obtain ⟨a0,a1,p0,p1,p2,p3⟩:=HI4.out.cells
  go_wp2_with fail
  refine (HR.out _ HI4.out).mono ?_
  rintro e w5 ⟨fb,rfl,hf,b5⟩
  have HI5:=Lib.hid (HI4.out.below b5)
  have HSm:=Lib.hid (same_true ev (.pointer (some fb)) _ _ w5 (HE4.out.below b5) hf HI5.out.d HX.out.1.1 HX.out.1.2 (by have:=HX.out.2;simp;omega))
  clear hf b5 a0 a1 p0 p1 p2 p3
  go_wp2_with fail
  refine HSm.out.mono ?_
  rintro e w6 ⟨rfl,b6⟩
  have HI6:=Lib.hid (HI5.out.below b6)
  clear b6
  go_wp2_with fail
  refine (living_nil _).mono ?_
  rintro e w7 ⟨rfl,rfl⟩
  have HAw:=Lib.hid (awake_true w6 HI6.out.d)
  go_wp2_with fail
  refine HAw.out.mono ?_
  rintro e w8 ⟨rfl,b8⟩
  have HB8:=Lib.hid (HI6.out.b.trans (b8.mono HI6.out.b.size))
  clear b8
  go_wp2_with fail
  go_ret
  exact ⟨rfl,HB8.out⟩):P:=h
open a107 in
set_option maxRecDepth 100000 in
theorem news_fail {code:List InsL} {labels:List (Str×Nat)} (hp:parseL (linesL textL)=some (code,labels)) (hlab:labels.length≤3000) {w0 w:World} {b0 b1 n cp:Nat} {kw kc entry wide narrow:Int} {Ap:Option Addr} {prog:List InsL}
  (h0:0<w0.heap.size) (h:NewsI w0 w b0 b1 kw kc Ap n cp entry wide narrow prog) (hA:Ap=none→cp=0) (hpc: ∀x∈prog,U64 x.v) (hwb: -9223372036854775808≤wide∧wide≤9223372036854775807) {x:ErrK} (hx:newE kw kc prog entry wide narrow=some x)
  (u0 u1 u4 u5 u6 u7 u8 u9 u10 u11 u12 u13 u14 u15 u16 u17 u18 u19 u20 u21 u22 u23 u24 u25 u26 u27 u28 u29 u30 u31 u32 u33 u34 u35 u36 u37 u38 u39 u40 u41 u42 u43 u44 u45 u46 u47 u48 u49 u50 u51 u52 u53 u54 u55 u56 u57 u58 u59 u60 u61 u62 u63 u64 u65:Value):(tailC 2 newsBody).wp Tryz.prog (bodyPost Tryz.prog Tryz.f3 (fun e w'=>e= .returned (.bool true)∧Below w0.heap.size w0 w')) ⟨#[u0,u1, .pointer (some ⟨b0,0,none⟩), .pointer (some ⟨b1,0,none⟩),u4,u5,u6,u7,u8,u9,u10,u11,u12,u13,u14,u15,u16,u17,u18,u19,u20,u21,u22,u23,u24,u25,u26,u27,u28,u29,u30,u31,u32,u33,u34,u35,u36,u37,u38,u39,u40,u41,u42,u43,u44,u45,u46,u47,u48,u49,u50,u51,u52,u53,u54,u55,u56,u57,u58,u59,u60,u61,u62,u63,u64,u65],[]⟩ w:=by
 obtain ⟨hk,hxl⟩:=newE_small hx
 have HN:Hid (∀W A' c',NewsI w0 W b0 b1 kw kc Ap n cp entry wide narrow prog→W.ownsRow 0 68 7 (.slice A' n c') n (codeC prog)→Calls Tryz.prog 7 #[.agg #[.int .i64 kw, .int .i64 kc], .agg #[.slice A' n c', .int .i64 entry, .int .i64 wide, .int .i64 narrow]] W fun e w'=> ∃v,e= .returned (.tuple #[.pointer none,v])∧IsErr w' ((posixS,0)::x.1) x.2 v∧Below W.heap.size W w'):=Lib.hid fun W A' c' hI hrow=>by
  have hn:=hI.s.len
  have hs:=hI.s.size
  subst hn
  exact pnew_fails hp hlab hI.d hI.m hI.ml (by omega) hwb hx hrow
 have HR:Hid (∀W,NewsI w0 W b0 b1 kw kc Ap n cp entry wide narrow prog→Calls Tryz.prog 9 #[.agg #[.int .i64 kw, .int .i64 kc], .agg #[.slice Ap n cp, .int .i64 entry, .int .i64 wide, .int .i64 narrow]] W fun e w'=> ∃b,e= .returned (.tuple #[.pointer none, .pointer (some b)])∧IsFail w' ((posixS,0)::x.1) x.2 (.pointer (some b))∧Below W.heap.size W w'):=Lib.hid fun W hI=>(r24_fails hp hlab hpc hx hI.s hA).mono fun e w' ⟨v,h1,h2,h3⟩=>by
  obtain ⟨b,rfl⟩:=fail_ptr h2
  exact ⟨b,h1,h2,h3⟩
 have HCp:Hid (∀W,NewsI w0 W b0 b1 kw kc Ap n cp entry wide narrow prog→Calls Tryz.prog 8 #[.agg #[.slice Ap n cp, .int .i64 entry, .int .i64 wide, .int .i64 narrow]] W fun e w'=> ∃A' c',e= .returned (.agg #[.slice A' n c', .int .i64 entry, .int .i64 wide, .int .i64 narrow])∧w'.ownsRow W.heap.size 68 7 (.slice A' n c') n (codeC prog)∧Below W.heap.size W w'):=Lib.hid fun W hI=>rcopyprogO hI.s hA
 have HI0:=Lib.hid (h.below (bel_dr (Below.refl _ _)))
 have HX:=Lib.hid (And.intro hk hxl)
 obtain ⟨a0,a1,p0,p1,p2,p3⟩:=h.cells
 clear h hx hpc hwb hp hlab hk hxl h0
 exact m115
set_option maxRecDepth 100000 in
theorem news_law {w:World} (hd:Door w) (hM:MaxDoor w) (hMl:1<w.heap.size) {kw kc entry wide narrow:Int} {Ap:Option Addr} {n cp:Nat} {prog:List InsL} (hs:Src w Ap n prog) (hA:Ap=none→cp=0) (hpc: ∀x∈prog,U64 x.v) (hwb: -9223372036854775808≤wide∧wide≤9223372036854775807):
  Calls Tryz.prog 3 #[.agg #[.int .i64 kw, .int .i64 kc], .agg #[.slice Ap n cp, .int .i64 entry, .int .i64 wide, .int .i64 narrow]] w fun e w'=>e= .returned (.bool true)∧Below w.heap.size w w':=by
 obtain ⟨code,labels,hp,-,-,hlab⟩:=lib_is
 obtain ⟨l0,l1,hb0⟩:=laid2 w (.cells #[.int .i64 kw, .int .i64 kc] 23) (.cells #[.slice Ap n cp, .int .i64 entry, .int .i64 wide, .int .i64 narrow] 26)
 have hpos:=door_pos hd
 have HTail:Hid (∀W kc',NewsI w W w.heap.size (w.heap.size+1) kw kc' Ap n cp entry wide narrow prog→ ∀u0 u1 u4 u5 u6 u7 u8 u9 u10 u11 u12 u13 u14 u15 u16 u17 u18 u19 u20 u21 u22 u23 u24 u25 u26 u27 u28 u29 u30 u31 u32 u33 u34 u35 u36 u37 u38 u39 u40 u41 u42 u43 u44 u45 u46 u47 u48 u49 u50 u51 u52 u53 u54 u55 u56 u57 u58 u59 u60 u61 u62 u63 u64 u65:Value,(tailC 2 newsBody).wp Tryz.prog (bodyPost Tryz.prog Tryz.f3 (fun e w'=>e= .returned (.bool true)∧Below w.heap.size w w')) ⟨#[u0,u1, .pointer (some ⟨w.heap.size,0,none⟩), .pointer (some ⟨w.heap.size+1,0,none⟩),u4,u5,u6,u7,u8,u9,u10,u11,u12,u13,u14,u15,u16,u17,u18,u19,u20,u21,u22,u23,u24,u25,u26,u27,u28,u29,u30,u31,u32,u33,u34,u35,u36,u37,u38,u39,u40,u41,u42,u43,u44,u45,u46,u47,u48,u49,u50,u51,u52,u53,u54,u55,u56,u57,u58,u59,u60,u61,u62,u63,u64,u65],[]⟩ W):=Lib.hid fun W kc' hI u0 u1 u4 u5 u6 u7 u8 u9 u10 u11 u12 u13 u14 u15 u16 u17 u18 u19 u20 u21 u22 u23 u24 u25 u26 u27 u28 u29 u30 u31 u32 u33 u34 u35 u36 u37 u38 u39 u40 u41 u42 u43 u44 u45 u46 u47 u48 u49 u50 u51 u52 u53 u54 u55 u56 u57 u58 u59 u60 u61 u62 u63 u64 u65=>by
  cases hx:newE kw kc' prog entry wide narrow with
  |none=>exact news_good hp hlab hpos hI hA hpc hwb hx u0 u1 u4 u5 u6 u7 u8 u9 u10 u11 u12 u13 u14 u15 u16 u17 u18 u19 u20 u21 u22 u23 u24 u25 u26 u27 u28 u29 u30 u31 u32 u33 u34 u35 u36 u37 u38 u39 u40 u41 u42 u43 u44 u45 u46 u47 u48 u49 u50 u51 u52 u53 u54 u55 u56 u57 u58 u59 u60 u61 u62 u63 u64 u65
  |some x=>exact news_fail hp hlab hpos hI hA hpc hwb hx u0 u1 u4 u5 u6 u7 u8 u9 u10 u11 u12 u13 u14 u15 u16 u17 u18 u19 u20 u21 u22 u23 u24 u25 u26 u27 u28 u29 u30 u31 u32 u33 u34 u35 u36 u37 u38 u39 u40 u41 u42 u43 u44 u45 u46 u47 u48 u49 u50 u51 u52 u53 u54 u55 u56 u57 u58 u59 u60 u61 u62 u63 u64 u65
 have hI:NewsI w ((w.alloc (.cells #[.int .i64 kw, .int .i64 kc] 23)).alloc (.cells #[.slice Ap n cp, .int .i64 entry, .int .i64 wide, .int .i64 narrow] 26)) w.heap.size (w.heap.size+1) kw kc Ap n cp entry wide narrow prog:=⟨hb0,l0,l1,hs.below hb0,hd.below hb0 hpos,hM.below hb0 hMl,Nat.lt_of_lt_of_le hMl hb0.size⟩
 have HI:=Lib.hid hI
 have HSs:=Lib.hid hs
 have HDs:=Lib.hid (And.intro hd (And.intro hM hMl))
 clear hI l0 l1 hb0 hs hA hpc hwb hd hM hMl hp hlab
 go_enter Tryz.func3,Tryz.ntmps3
 refine wp_seq_k (fun J hJ=>?_)
 have hJ1: ∀a w',(tailC 1 newsBody).wp Tryz.prog (bodyPost Tryz.prog Tryz.f3 (fun e w'=>e= .returned (.bool true)∧Below w.heap.size w w')) a w'→J a w':=hJ
 clear hJ
 go_wp2_with fail
 generalize (w.alloc (.cells #[.int .i64 kw, .int .i64 kc] 23)).alloc (.cells #[.slice Ap n cp, .int .i64 entry, .int .i64 wide, .int .i64 narrow] 26)=wA at HI ⊢
 have x1:wA.cell? ⟨w.heap.size,1,none⟩=some (.int .i64 kc):=blk_cell HI.out.c 1
 have xf: ∀o,wA.frozen? ⟨w.heap.size,o,none⟩=false:=blk_frozen HI.out.c
 conv=>arg 2;whnf
 refine wp_seq_k (fun J2 hJ2=>?_)
 have hJ3: ∀a w',(tailC 2 newsBody).wp Tryz.prog (bodyPost Tryz.prog Tryz.f3 (fun e w'=>e= .returned (.bool true)∧Below w.heap.size w w')) a w'→J2 a w':=hJ2
 clear hJ2
 rcases (by omega:kc≤5000∨(5000<kc∧kc≤65536)∨(5000<kc∧ ¬kc≤65536)) with h1|⟨h1,h2⟩ |⟨h1,h2⟩
 ·have h1': ¬5000<kc:=by omega
  exact m96
 ·have HI2:Hid (NewsI w (wA.setCell ⟨w.heap.size,1,none⟩ (.int .i64 5000)) w.heap.size (w.heap.size+1) kw 5000 Ap n cp entry wide narrow prog):=Lib.hid (by
   obtain ⟨g1,g2,g3,g4,g5,g6,g7⟩:=HI.out
   have hk:Keeps (fun b=>b=w.heap.size) wA (wA.setCell ⟨w.heap.size,1,none⟩ (.int .i64 5000)):=(Keeps.refl _ wA).setCell (p:=⟨w.heap.size,1,none⟩) (by exact rfl) _
   have hbw:Below w.heap.size w (wA.setCell ⟨w.heap.size,1,none⟩ (.int .i64 5000)):=Keeps.below g1 hk g1.size (fun i e=>by omega)
   exact ⟨hbw,set_block g2 _,(set_other (by show w.heap.size+1≠w.heap.size;omega)).trans g3,HSs.out.below hbw,HDs.out.1.below hbw hpos,HDs.out.2.1.below hbw HDs.out.2.2,Nat.lt_of_lt_of_le HDs.out.2.2 hbw.size⟩)
  go_wp2_with fail
  exact HTail.out _ _ HI2.out _ _ _ _ _ _ _ _ _ _ _ _ _ _ _ _ _ _ _ _ _ _ _ _ _ _ _ _ _ _ _ _ _ _ _ _ _ _ _ _ _ _ _ _ _ _ _ _ _ _ _ _ _ _ _ _ _ _ _ _ _ _ _ _
 ·exact m96
end Go.Proofs.YtaangaogmnlljaaGreatDoor.Kn
namespace Go.Proofs.YtaangaogmnlljaaGreatDoor.Kn
open Go.ChangeShapes Go.WideShapes Go.ChangeAt Go.RowKit Go.Deep Go.Joins Asm
theorem cellsIns:Tryz.prog.cellsOf 68=7:=by kernel_rfl
theorem bytesIns:Tryz.prog.bytesOf 68=56:=by kernel_rfl
theorem cellsI:Tryz.prog.cellsOf 3=1:=by kernel_rfl
theorem cellsU:Tryz.prog.cellsOf 53=1:=by kernel_rfl
section
variable {H:Type} {enc:TypeId×Value→H} {w:World}
set_option maxRecDepth 20000 in
theorem open_conf {b0:Nat} {v:Value} {d:DataW H} {p:List MemPlace} (hval:Value.okWide Tryz.prog w .any b0 23 v) (h:DataW.Trod enc Tryz.prog w 0 (fun _=>true) true 23 v d p): ∃a b:Int,v= .agg #[.int .i64 a, .int .i64 b]:=by
 obtain ⟨v0,v1,y0,y1,n,rfl,-,-,h0,h1⟩:=open_agg2 Tryz.underlying23 (by kernel_rfl) (by kernel_rfl) hval h
 obtain ⟨a,e0,-,-⟩:=DataW.trod_int Tryz.underlying3 h0
 obtain ⟨b,e1,-,-⟩:=DataW.trod_int Tryz.underlying3 h1
 simp at e0 e1
 exact ⟨a,b,by rw[e0,e1]⟩
set_option maxRecDepth 20000 in
theorem open_prog {b0:Nat} {v:Value} {d:DataW H} {p:List MemPlace} (hval:Value.okWide Tryz.prog w .any b0 26 v) (h:DataW.Trod enc Tryz.prog w 0 (fun _=>true) true 26 v d p)
  (hz: ∀n∈d.weights Tryz.prog 26,n≤reachBytes):
  ∃(A:Option Addr) (n c:Nat) (entry wide narrow:Int) (prog:List InsL),v= .agg #[.slice A n c, .int .i64 entry, .int .i64 wide, .int .i64 narrow]∧Src w A n prog∧(A=none→c=0)∧(∀x∈prog,U64 x.v)∧ -9223372036854775808≤wide∧wide≤9223372036854775807:=by
 obtain ⟨v0,v1,v2,v3,y0,y1,y2,y3,m0,rfl,rfl,-,h0,h1,h2,h3⟩:=open_agg4 Tryz.underlying26 (by kernel_rfl) (by kernel_rfl) hval h
 obtain ⟨entry,e1,-,-⟩:=DataW.trod_int Tryz.underlying3 h1
 obtain ⟨wide,e2,-,w2⟩:=DataW.trod_int Tryz.underlying3 h2
 obtain ⟨narrow,e3,-,-⟩:=DataW.trod_int Tryz.underlying3 h3
 simp at e1 e2 e3
 subst e1 e2 e3
 have hwb:=bounds_i64 w2
 rcases open_slice (P:=Tryz.prog) Tryz.underlying24 h0 with ⟨hcs,_⟩ |⟨a,len,cap,m,n,D,Pl,hcs,hb,hl,hm,hmm,hx,hi⟩
 ·have e:v0= .slice none 0 0:=by simpa using hcs
  subst e
  exact ⟨none,0,0,entry,wide,narrow,[],rfl,⟨rfl,by omega,Or.inl rfl⟩,fun _=>rfl,fun x hx=>(by cases hx),hwb⟩
 ·have e:v0= .slice (some a) len cap:=by simpa using hcs
  subst e
  have hlm:len≤m:=by rw[hmm];simp;omega
  have hsz:len*56≤140737488355328:=by
   have hy:y0.1= .slice ((List.range len).map D) ((List.range (m - len)).map fun j=>D (len+j)):=by rw[hx]
   have hw:(len+(m - len))*56≤reachBytes:=by
    refine hz _ ?_
    have e1:DataW.weights Tryz.prog 26 (.agg [y0.1,y1.1,y2.1,y3.1])=DataW.weightsEach Tryz.prog [24,3,3,3] [y0.1,y1.1,y2.1,y3.1]:=by
     rw[DataW.weights,Tryz.underlying26]
     rfl
    rw[e1,hy]
    refine DataW.weights_mem_each (j:=0) rfl rfl _ ?_
    rw[DataW.weights,Tryz.underlying24]
    simp only[List.length_map,List.length_range,bytesIns,List.mem_cons,true_or]
   have:reachBytes≤140737488355328:=by decide
   omega
  have hE: ∀i,i<len→ ∃x:InsL,U64 x.v∧w.cell? (a.add (i*7))=some (.int .i64 x.op)∧w.cell? (a.add (i*7+1))=some (.int .i64 x.a)∧w.cell? (a.add (i*7+2))=some (.int .i64 x.b)∧w.cell? (a.add (i*7+3))=some (.int .i64 x.c)∧w.cell? (a.add (i*7+4))=some (.int .u64 x.v)∧w.cell? (a.add (i*7+5))=some (.int .i64 x.m)∧w.cell? (a.add (i*7+6))=some (.int .i64 x.w):=by
   intro i hil
   obtain ⟨cs',hc,ht'⟩:=hi i (by omega)
   rw[cellsIns] at hc
   obtain ⟨ys,n',_,_,hlen,hyl,hfd⟩:=DataW.trod_struct Tryz.underlying68 ht'
   rw[cellsIns] at hlen
   obtain ⟨_,hcl,hat⟩:=World.cells?_some hc
   match cs',hlen with
   |[x0,x1,x2,x3,x4,x5,x6],_=>
    have g0:DataW.trod enc Tryz.prog w 0 (fun _=>true) true n' 3 (([x0,x1,x2,x3,x4,x5,x6].drop 0).take (Tryz.prog.cellsOf 3))=ys[0]?:=hfd 0 _ rfl
    have g1:DataW.trod enc Tryz.prog w 0 (fun _=>true) true n' 3 (([x0,x1,x2,x3,x4,x5,x6].drop 1).take (Tryz.prog.cellsOf 3))=ys[1]?:=hfd 1 _ rfl
    have g2:DataW.trod enc Tryz.prog w 0 (fun _=>true) true n' 3 (([x0,x1,x2,x3,x4,x5,x6].drop 2).take (Tryz.prog.cellsOf 3))=ys[2]?:=hfd 2 _ rfl
    have g3:DataW.trod enc Tryz.prog w 0 (fun _=>true) true n' 3 (([x0,x1,x2,x3,x4,x5,x6].drop 3).take (Tryz.prog.cellsOf 3))=ys[3]?:=hfd 3 _ rfl
    have g4:DataW.trod enc Tryz.prog w 0 (fun _=>true) true n' 53 (([x0,x1,x2,x3,x4,x5,x6].drop 4).take (Tryz.prog.cellsOf 53))=ys[4]?:=hfd 4 _ rfl
    have g5:DataW.trod enc Tryz.prog w 0 (fun _=>true) true n' 3 (([x0,x1,x2,x3,x4,x5,x6].drop 5).take (Tryz.prog.cellsOf 3))=ys[5]?:=hfd 5 _ rfl
    have g6:DataW.trod enc Tryz.prog w 0 (fun _=>true) true n' 3 (([x0,x1,x2,x3,x4,x5,x6].drop 6).take (Tryz.prog.cellsOf 3))=ys[6]?:=hfd 6 _ rfl
    rw[cellsI] at g0 g1 g2 g3 g5 g6
    rw[cellsU] at g4
    have y0:ys[0]?=some (ys[0]'(by rw[hyl];decide)):=List.getElem?_eq_getElem _
    have y1:ys[1]?=some (ys[1]'(by rw[hyl];decide)):=List.getElem?_eq_getElem _
    have y2:ys[2]?=some (ys[2]'(by rw[hyl];decide)):=List.getElem?_eq_getElem _
    have y3:ys[3]?=some (ys[3]'(by rw[hyl];decide)):=List.getElem?_eq_getElem _
    have y4:ys[4]?=some (ys[4]'(by rw[hyl];decide)):=List.getElem?_eq_getElem _
    have y5:ys[5]?=some (ys[5]'(by rw[hyl];decide)):=List.getElem?_eq_getElem _
    have y6:ys[6]?=some (ys[6]'(by rw[hyl];decide)):=List.getElem?_eq_getElem _
    obtain ⟨n0,e0,_,_⟩:=DataW.trod_int Tryz.underlying3 (g0.trans y0)
    obtain ⟨n1,e1,_,_⟩:=DataW.trod_int Tryz.underlying3 (g1.trans y1)
    obtain ⟨n2,e2,_,_⟩:=DataW.trod_int Tryz.underlying3 (g2.trans y2)
    obtain ⟨n3,e3,_,_⟩:=DataW.trod_int Tryz.underlying3 (g3.trans y3)
    obtain ⟨n4,e4,_,w4⟩:=DataW.trod_int Tryz.underlying53 (g4.trans y4)
    obtain ⟨n5,e5,_,_⟩:=DataW.trod_int Tryz.underlying3 (g5.trans y5)
    obtain ⟨n6,e6,_,_⟩:=DataW.trod_int Tryz.underlying3 (g6.trans y6)
    simp at e0 e1 e2 e3 e4 e5 e6
    subst e0 e1 e2 e3 e4 e5 e6
    have b4:=bounds_u64 w4
    refine ⟨⟨n0,n1,n2,n3,n4,n5,n6⟩,by show 0≤n4∧n4<18446744073709551616;omega,?_,?_,?_,?_,?_,?_,?_⟩
    ·have:=hat 0 (by omega);rw[Go.Deep.add_add] at this;exact this
    ·have:=hat 1 (by omega);rw[Go.Deep.add_add] at this;exact this
    ·have:=hat 2 (by omega);rw[Go.Deep.add_add] at this;exact this
    ·have:=hat 3 (by omega);rw[Go.Deep.add_add] at this;exact this
    ·have:=hat 4 (by omega);rw[Go.Deep.add_add] at this;exact this
    ·have:=hat 5 (by omega);rw[Go.Deep.add_add] at this;exact this
    ·have:=hat 6 (by omega);rw[Go.Deep.add_add] at this;exact this
  let E:Nat→InsL:=fun i=>if h:i<len then Classical.choose (hE i h) else { op:=0}
  have hEs: ∀i (hil:i<len),U64 (E i).v∧w.cell? (a.add (i*7))=some (.int .i64 (E i).op)∧w.cell? (a.add (i*7+1))=some (.int .i64 (E i).a)∧w.cell? (a.add (i*7+2))=some (.int .i64 (E i).b)∧w.cell? (a.add (i*7+3))=some (.int .i64 (E i).c)∧w.cell? (a.add (i*7+4))=some (.int .u64 (E i).v)∧w.cell? (a.add (i*7+5))=some (.int .i64 (E i).m)∧w.cell? (a.add (i*7+6))=some (.int .i64 (E i).w):=fun i hil=>by
   have hEi:E i=Classical.choose (hE i hil):=dif_pos hil
   rw[hEi]
   exact Classical.choose_spec (hE i hil)
  refine ⟨some a,len,cap,entry,wide,narrow,(List.range len).map E,rfl,⟨by simp,hsz,?_⟩,fun e=>(by cases e),fun x hx=>?_,hwb⟩
  ·rcases Nat.eq_zero_or_pos len with h0|hpos
   ·exact Or.inl h0
   ·right
    obtain ⟨b,off,spot⟩:=a
    have hs0:=(hEs 0 hpos).2.1
    have hspot:spot=none:=by simpa[Addr.add] using World.cell?_spot hs0
    subst hspot
    have hbl:b<w.heap.size:=by simpa[Addr.add] using block_lt_of_cell hs0
    refine ⟨b,off,rfl,hbl,fun k hk j u hu=>?_⟩
    have hkl:k<len:=by simpa using hk
    have he:((List.range len).map E)[k]=E k:=by simp
    rw[he] at hu
    obtain ⟨-,q0,q1,q2,q3,q4,q5,q6⟩:=hEs k hkl
    rw[Go.WideShapes.add_plain] at q0 q1 q2 q3 q4 q5 q6
    match j,hu with
    |0,hu=>simp[insV] at hu;subst hu;exact q0
    |1,hu=>simp[insV] at hu;subst hu;exact q1
    |2,hu=>simp[insV] at hu;subst hu;exact q2
    |3,hu=>simp[insV] at hu;subst hu;exact q3
    |4,hu=>simp[insV] at hu;subst hu;exact q4
    |5,hu=>simp[insV] at hu;subst hu;exact q5
    |6,hu=>simp[insV] at hu;subst hu;exact q6
    |j+7,hu=>simp[insV] at hu
  ·obtain ⟨i,hi2,rfl⟩:=List.mem_map.1 hx
   exact (hEs i (List.mem_range.1 hi2)).1
end
end Go.Proofs.YtaangaogmnlljaaGreatDoor.Kn
