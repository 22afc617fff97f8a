/- Part 42 of what the proof stands on: KnDenW. -/
import Derived.Deep.LoopGhost
import Derived.Test.YtaangaogmnlljaaGreatDoorP03
import Derived.Test.YtaangaogmnlljaaGreatDoorP10
import Derived.Test.YtaangaogmnlljaaGreatDoorP16
import Derived.Test.YtaangaogmnlljaaGreatDoorP17
import Derived.Test.YtaangaogmnlljaaGreatDoorP38
import Derived.Test.YtaangaogmnlljaaGreatDoorP41
set_option linter.unusedVariables false
namespace Go.Proofs.YtaangaogmnlljaaGreatDoor.Kn
open Go.RowKit Asm PosTab Errs
theorem new_den (code:List InsL) (labels:List (Str×Nat)) (hh num:Int):newK (libF code labels (denC hh num) 2 0 1) 100 0=withR (newK (GD code (loopOf labels) (libCalls labels)) 100 0) (runD 0 (List.replicate 32 0)):=by kernel_rfl
theorem new_out (B:Fixed) (c:Nat) (e:Int):(newK B c e).out= []:=by
 unfold newK
 show (bornK (bareK B c) e 0).2.out= []
 unfold bornK
 cases getA (bareK B c).alc (bareK B c).mem 1 64 with
 |none=>rfl
 |some g=>
  obtain ⟨a,b,m⟩:=g
  simp only
  cases bornT (bareK B c).tab a<;>rfl
theorem libF_den (code:List InsL) (labels:List (Str×Nat)) (hh num:Int):DenF (libF code labels (denC hh num) 2 0 1) (GD code (loopOf labels) (libCalls labels)) hh num:=⟨⟨rfl,rfl,rfl⟩,rfl,rfl,rfl⟩
theorem alc_few {w:World} {A X:Nat} {v:Value} {a:Alc} (h:AlcP w A X v a):a.l.length≤65536:=by have:=okB_len h.ok;have:=h.most;omega
def DenI (B0 F:Fixed) (hh:Int) (w0:World) (G:KG) (q:Nat×Mach) (i cnt:Nat) (wr:World):Prop:=
 ∃A pc R own tb fb,KernP F wr own { G with tb:=tb,fb:=fb} (withR A (runD pc R)) (3+8*i)∧A.out= []∧RegD hh pc R∧okA B0 (300 - i) A pc cnt=some q∧Below w0.heap.size w0 wr∧ ∀b,b<w0.heap.size→own b= .other
theorem evC_two (e1 e2:Ev):evC [e1,e2]=ev11 e1++ev11 e2:=by simp[evC]
theorem code5 {w:World} {h n:Int} {k:Nat} {cs:Array Value} (hk:w.heap[k]?=some (.cells cs 68 (0,0))) (hc:cs=(codeC (denC h n)).toArray):w.ownsRow 0 68 7 (.slice (some ⟨k,0,none⟩) 5 5) (denC h n).length (codeC (denC h n)):=by
 subst hc
 have h5:(denC h n).length=5:=rfl
 have hl:(codeC (denC h n)).length=5*7:=by rw[codeC_len',h5]
 rw[h5]
 exact ⟨hl, .inr ⟨k,5,_,rfl,Nat.zero_le _,hk,Nat.le_refl _,by unfold maxLen;omega,by rw[List.size_toArray,hl],by rw[List.take_of_length_le (by rw[←hl];exact Nat.le_refl _)]⟩⟩
theorem den_q {code:List InsL} {labels:List (Str×Nat)} (hp:parseL (linesL textL)=some (code,labels)): ∃q:Nat×Mach,okA (GD code (loopOf labels) (libCalls labels)) 300 (newK (GD code (loopOf labels) (libCalls labels)) 100 0) 0 0=some q∧10<q.1∧usedA q.2.alc=1∧ ∀r∈q.2.objs,r.handle=0:=by
 have h:=den_of hp
 unfold denCheck at h
 simp only at h
 split at h
 ·rename_i k A e
  simp only[Bool.and_eq_true,decide_eq_true_eq,beq_iff_eq,List.all_eq_true] at h
  exact ⟨(k,A),e,h.1.1,h.1.2,h.2⟩
 ·cases h
theorem DenI.start {code:List InsL} {labels:List (Str×Nat)} {hh num:Int} {w0 wr:World} {G:KG} {own:Own} {q:Nat×Mach} (hk:KernP (libF code labels (denC hh num) 2 0 1) wr own G (newK (libF code labels (denC hh num) 2 0 1) 100 0) 3)
  (hq:okA (GD code (loopOf labels) (libCalls labels)) 300 (newK (GD code (loopOf labels) (libCalls labels)) 100 0) 0 0=some q) (hb:Below w0.heap.size w0 wr) (ho: ∀b,b<w0.heap.size→own b= .other):
  DenI (GD code (loopOf labels) (libCalls labels)) (libF code labels (denC hh num) 2 0 1) hh w0 G q 0 0 wr:=by
 rw[new_den] at hk
 exact ⟨newK (GD code (loopOf labels) (libCalls labels)) 100 0,0,List.replicate 32 0,own,G.tb,G.fb,hk,new_out (GD code (loopOf labels) (libCalls labels)) 100 0,⟨by simp,by decide,fun h=>absurd h.1 (by decide),fun h=>absurd h.1 (by decide),fun h=>absurd h (by decide)⟩,hq,hb,ho⟩
def DenL (hh num c:Int) (l:List Ev) (k:Nat):Prop:=(l= []∧k=0)∨ ∃e1 e2:Ev,l= [e1,e2]∧k=1∧e1.kind=1∧e1.a0=hh∧e2.kind=2∧e2.num=num∧e2.code=c∧e2.v=0
theorem DenI.pick {B0 F:Fixed} {hh num c:Int} (hD:DenF F B0 hh num) (hwn:F.wide=2∧F.narrow=0) (hd:denied F num c) (hc:c≠0) (h0:1000≤hh) (hnum:0≤num∧num<1000) {w0 wr:World} {G:KG} {q:Nat×Mach} {i cnt:Nat} (hi:i<300) (h:DenI B0 F hh w0 G q i cnt wr):
  Calls Tryz.prog 18 #[.pointer (some ⟨G.K,0,none⟩), .agg #[.int .i64 1, .int .i64 0, .int .u64 0]] wr fun e w'=> ∃ov l k,e= .returned ov∧DenI B0 F hh w0 G q (i+1) (cnt+k) w'∧w'.ownsRow 0 71 11 ov l.length (evC l)∧DenL hh num c l k:=by
 obtain ⟨A,pc,R,own,tb,fb,hk,hA,hR,hq,hb,ho⟩:=h
 have e:300 - i=(300 - (i+1))+1:=by omega
 rw[e] at hq
 obtain ⟨q1,q2⟩:=okA_step hq
 refine (den_do hD hwn hd hc h0 hnum A hA hR q1 hk (by omega)).mono fun e w' ⟨ov,tb2,fb2,own2,R',l,a,b,c,d,f,g⟩=>?_
 have hb2:Below w0.heap.size w0 w':=Keeps.below hb d.keeps hb.size fun j hj=>by
  rcases Nat.lt_or_ge j w0.heap.size with h|h
  ·exact absurd (ho j h) hj
  ·exact h
 have ho2: ∀b,b<w0.heap.size→own2 b= .other:=fun b hbb=>d.own b (Nat.lt_of_lt_of_le hbb hb.size) (ho b hbb)
 have hn:3+8*i+8=3+8* (i+1):=by omega
 rw[hn] at b
 by_cases hcd:(wkrOf A 0).slot≠0∧(wkrOf A 0).left≠0∧pc=3
 ·rw[if_pos hcd] at q2 g
  obtain ⟨e1,e2,g1,g2⟩:=g
  exact ⟨ov,l,1,a,⟨_,_,R',own2,tb2,fb2,b,stepA_out A pc,c,q2,hb2,ho2⟩,f.1,Or.inr ⟨e1,e2,g1,rfl,g2⟩⟩
 ·rw[if_neg hcd] at q2 g
  exact ⟨ov,l,0,a,⟨_,_,R',own2,tb2,fb2,b,stepA_out A pc,c,q2,hb2,ho2⟩,f.1,Or.inl ⟨g,rfl⟩⟩
theorem DenI.below {B0 F:Fixed} {hh:Int} {w0 wr w2:World} {G:KG} {q:Nat×Mach} {i cnt:Nat} (h:DenI B0 F hh w0 G q i cnt wr) (hb:Below wr.heap.size wr w2):DenI B0 F hh w0 G q i cnt w2:=by
 obtain ⟨A,pc,R,own,tb,fb,hk,hA,hR,hq,hbw,ho⟩:=h
 refine ⟨A,pc,R,ext own wr.heap.size .other,tb,fb,hk.below hb,hA,hR,hq,hbw.trans (hb.mono hbw.size),fun b hb'=>(ext_lt (Nat.lt_of_lt_of_le hb' hbw.size)).trans (ho b hb')⟩
theorem DenI.over {B0 F:Fixed} {hh:Int} {w0 wr:World} {G:KG} {q:Nat×Mach} {cnt:Nat} (h:DenI B0 F hh w0 G q 300 cnt wr) (hu:usedA q.2.alc=1) (hz: ∀r∈q.2.objs,r.handle=0):
  cnt=q.1∧ ∃own M nn tb fb,KernP F wr own { G with tb:=tb,fb:=fb} M nn∧Below w0.heap.size w0 wr∧usedA M.alc=1∧M.alc.l.length≤65536∧ ∀r∈M.objs,r.handle=0:=by
 obtain ⟨A,pc,R,own,tb,fb,hk,hA,hR,hq,hb,ho⟩:=h
 rw[Nat.sub_self] at hq
 have e:some (cnt,A)=some q:=hq
 injection e with e
 subst e
 obtain ⟨v,hP,-⟩:=hk.alc
 refine ⟨rfl,own,_,_,tb,fb,hk,hb,hu,?_,hz⟩
 show A.alc.l.length≤65536
 exact alc_few hP
set_option maxRecDepth 100000 in
set_option maxHeartbeats 20000000 in
theorem denied_law (num handle:Int) (hnb: -9223372036854775808≤num∧num≤9223372036854775807) (hhb:0≤handle∧handle≤18446744073709551615) (w:World) (hd:Door w) (hM:MaxDoor w) (hMl:1<w.heap.size):
  Calls Tryz.prog 6 #[.int .i64 num, .int .u64 handle] w fun e w'=>e= .returned (.bool true)∧Below w.heap.size w w':=by
 obtain ⟨code,labels,hp,hc0,hc1,hlab⟩:=lib_is
 obtain ⟨q,hq,hq10,hqu,hqz⟩:=den_q hp
 have hgood:=LibGood.of hp
 obtain ⟨hh,hhE⟩: ∃hh:Int,hh=if handle<1000 then handle+1000 else handle:=⟨_,rfl⟩
 have hh0:1000≤hh∧hh<18446744073709551616:=by rw[hhE];split<;>omega
 obtain ⟨n,hn⟩: ∃n:Int,n=num%1000:=⟨_,rfl⟩
 have hnR:0≤n∧n<1000:=by omega
 obtain ⟨o,ho⟩: ∃o,o=ofNum n tab:=⟨_,rfl⟩
 have HW:=Lib.hid (within_any num 1000 w (by decide) (by decide) hnb)
 rw[←hn] at HW
 have hkv:kindsOf o= .agg #[.int .i64 (kAt o 0), .int .i64 (kAt o 1), .int .i64 (kAt o 2), .int .i64 (kAt o 3)]:=by cases o<;>rfl
 have HKi:=kinds_any n w
 rw[←ho,hkv] at HKi
 have HKi:=Lib.hid HKi
 have HDn:Hid (denB o 4=true→denied (libF code labels (denC hh n) 2 0 1) n (wantOf o)):=Lib.hid fun h=>by rw[ho] at h ⊢;exact denied_of labels h rfl
 have HNw:Hid (∀W k,Below w.heap.size w W→W.ownsRow 0 68 7 (.slice (some ⟨k,0,none⟩) 5 5) (denC hh n).length (codeC (denC hh n))→Calls Tryz.prog 7 #[.agg #[.int .i64 1, .int .i64 100], .agg #[.slice (some ⟨k,0,none⟩) 5 5, .int .i64 0, .int .i64 2, .int .i64 0]] W fun e w'=> ∃G,e= .returned (.tuple #[.pointer (some ⟨G.K,0,none⟩), .nilIface])∧DenI (GD code (loopOf labels) (libCalls labels)) (libF code labels (denC hh n) 2 0 1) hh w G q 0 0 w'):=Lib.hid fun W k hW hr=>by
  have hF:FixOk (libF code labels (denC hh n) 2 0 1):=fix_ok hgood (prog:=denC hh n) (by show 0<5;decide) (by show 5≤2048;decide) (den_may ⟨by omega,hh0.2⟩ hnR) ⟨by decide,by decide,by decide⟩ ⟨by decide,by decide⟩
  have hn:=pnew_any hp hlab (hM.below hW hMl) (Nat.lt_of_lt_of_le hMl hW.size) hF (entry:=0) (cells:=100) ⟨by decide,by show (0:Int)<((5:Nat):Int);decide⟩ (by show (17+8* ((1:Nat):Int))+2+0+1≤((100:Nat):Int);decide) (by decide) hr
  refine hn.mono fun e w' ⟨G,own,a,b,c,d⟩=>⟨G,a,DenI.start b hq (hW.trans (c.mono hW.size)) fun x hx=>d x (Nat.lt_of_lt_of_le hx hW.size)⟩
 have HD:=Lib.hid hd
 have hp0:=door_pos hd
 have HQ:=Lib.hid (And.intro hq10 (And.intro hqu hqz))
 have hwr:handle<1000→IntKind.u64.wrap (handle+1000)=hh:=fun h=>by rw[hhE,if_pos h,IntKind.wrap_u64];omega
 have hge: ¬handle<1000→handle=hh:=fun h=>by rw[hhE,if_neg h]
 have hcv:IntKind.u64.wrap n=n:=by rw[IntKind.wrap_u64];omega
 have HPk:Hid (∀W G i cnt,denB o 4=true→i<300→DenI (GD code (loopOf labels) (libCalls labels)) (libF code labels (denC hh n) 2 0 1) hh w G q i cnt W→Calls Tryz.prog 18 #[.pointer (some ⟨G.K,0,none⟩), .agg #[.int .i64 1, .int .i64 0, .int .u64 0]] W fun e w'=> ∃ov l k,e= .returned ov∧DenI (GD code (loopOf labels) (libCalls labels)) (libF code labels (denC hh n) 2 0 1) hh w G q (i+1) (cnt+k) w'∧w'.ownsRow 0 71 11 ov l.length (evC l)∧DenL hh n (wantOf o) l k):=Lib.hid fun W G i cnt hB hi hI=>DenI.pick (libF_den code labels hh n) ⟨rfl,rfl⟩ (HDn.out hB) (want_ne o) hh0.1 hnR hi hI
 clear hp hM hMl hd hlab hc0 hc1 hq hq10 hqu hqz hgood hhE hn hnb hhb hkv ho HDn
 generalize libF code labels (denC hh n) 2 0 1=F at*
 generalize GD code (loopOf labels) (libCalls labels)=B0 at*
 by_cases hlt:handle<1000
 ·have hw1:=hwr hlt
  clear hwr hge
  go_enter Tryz.func6,Tryz.ntmps6
  go_wp2_with fail
  clear hw1 hlt
  refine HW.out.mono ?_
  rintro e w' ⟨rfl,hw'⟩
  subst hw'
  go_wp2_with fail
  refine HKi.out.mono ?_
  rintro e w1 ⟨rfl,hb1⟩
  go_wp2_with fail
  generalize hw2:w1.alloc _=w2
  have hb2:Below w.heap.size w w2:=by rw[←hw2];exact hb1.alloc hb1.size _
  have z2:w2.heap[w1.heap.size]?=some (.cells #[.int .i64 (kAt o 0), .int .i64 (kAt o 1), .int .i64 (kAt o 2), .int .i64 (kAt o 3)] 64 (0,0)):=by rw[←hw2];exact heap_alloc_new w1 _
  have HB2:=Lib.hid hb2
  have Z2:=Lib.hid z2
  clear hw2 hb1 hb2 z2 HW HKi
  generalize w1.heap.size=bx at*
  go_loopg [8,7] 4 (fun g iv dv wr=> ∃i:Nat,i≤4∧g=4 - i∧iv= .int .i64 (i:Int)∧dv= .bool (denB o i)∧wr=w2)
  case atStart=>exact ⟨0,by omega,rfl,rfl,by cases o<;>rfl,rfl⟩
  case round=>
   obtain ⟨i,hi,hg,rfl,rfl,rfl⟩:=hrel
   have Hg:=Lib.hid hg
   have hiI:(0:Int)≤(i:Int)∧(i:Int)≤4:=by omega
   by_cases hlt:i<4
   ·have hltI:(i:Int)<4:=by omega
    have Hlt:=Lib.hid hlt
    have ck:wr.cell? ⟨bx,i,none⟩=some (.int .i64 (kAt o i)):=by
     obtain rfl|rfl|rfl|rfl:i=0∨i=1∨i=2∨i=3:=by omega
     ·exact blk_cell Z2.out 0
     ·exact blk_cell Z2.out 1
     ·exact blk_cell Z2.out 2
     ·exact blk_cell Z2.out 3
    have hsu:denB o (i+1)=(denB o i||decide (kAt o i≠0)):=rfl
    have HSu:=Lib.hid hsu
    generalize kAt o i=kk at ck HSu
    clear hsu hg hlt
    cases hd:denB o i with
    |true=>
     rw[hd] at HSu
     go_wp2_with fail
     go_roundg (4 - (i+1))
     case measure=>have:=Hg.out;have:=Hlt.out;omega
     case rel=>have:=Hlt.out;exact ⟨i+1,by omega,rfl,by go_num,by rw[HSu.out];rfl,rfl⟩
    |false=>
     rw[hd] at HSu
     by_cases hk:kk=0
     ·subst hk
      go_wp2_with fail
      go_roundg (4 - (i+1))
      case measure=>have:=Hg.out;have:=Hlt.out;omega
      case rel=>have:=Hlt.out;exact ⟨i+1,by omega,rfl,by go_num,by rw[HSu.out];rfl,rfl⟩
     ·have hkb:(kk !=0)=true:=by simp[hk]
      have HK:=Lib.hid hk
      go_wp2_with fail
      go_roundg (4 - (i+1))
      case measure=>have:=Hg.out;have:=Hlt.out;omega
      case rel=>have:=Hlt.out;exact ⟨i+1,by omega,rfl,by go_num,by rw[HSu.out];simp[HK.out],rfl⟩
   ·obtain rfl:i=4:=by omega
    clear hg hlt
    cases hD:denB o 4 with
    |false=>
     have HA:=Lib.hid (awake_true wr (HD.out.below HB2.out hp0))
     go_wp2_with fail
     refine HA.out.mono ?_
     rintro e w3 ⟨rfl,hb3⟩
     have HB3:=Lib.hid hb3
     clear hb3 HA
     go_wp2_with fail
     go_ret
     exact ⟨rfl,HB2.out.trans (HB3.out.mono HB2.out.size)⟩
    |true=>
     go_upto_region 13 with fail
     generalize hw3:wr.alloc _=w3
     have hb3:Below wr.heap.size wr w3:=by rw[←hw3];exact (Below.refl _ _).alloc (Nat.le_refl _) _
     have z3:w3.heap[wr.heap.size]?=some (.cells (codeC (denC hh n)).toArray 68 (0,0)):=by rw[←hw3];exact heap_alloc_new wr _
     have HN:=Lib.hid (HNw.out w3 wr.heap.size (HB2.out.trans (hb3.mono HB2.out.size)) (code5 z3 rfl))
     clear hw3 hb3 z3 Z2 HB2 HNw
     generalize wr.heap.size=cx at*
     go_wp2_with fail
     refine HN.out.mono ?_
     rintro e w4 ⟨G,rfl,hI⟩
     have HI:=Lib.hid hI
     clear hI HN
     obtain ⟨KK,hKK⟩: ∃K,K=G.K:=⟨_,rfl⟩
     rw[←hKK]
     have HKK:=Lib.hid hKK
     clear hKK
     cases hs:o.isSome with
     |true=>
      have hcw:wantOf o=22:=by unfold wantOf;rw[hs];rfl
      go_wp2_with fail
      go_loopg [14,13] 300 (fun g iv nv wr=> ∃(i cnt:Nat),i≤300∧g=300 - i∧iv= .int .i64 (i:Int)∧nv= .int .i64 (cnt:Int)∧cnt≤i∧Hid (DenI B0 F hh w G q i cnt wr))
      case atStart=>exact ⟨0,0,by omega,rfl,rfl,rfl,Nat.le_refl _,HI⟩
      case round=>
       obtain ⟨i,cnt,hi,hg,rfl,rfl,hci,HI⟩:=hrel
       have Hg:=Lib.hid hg
       have hiI:(0:Int)≤(i:Int)∧(i:Int)≤300:=by omega
       by_cases hlt:i<300
       ·have hltI:(i:Int)<300:=by omega
        have Hlt:=Lib.hid hlt
        have hpk:=HPk.out wr G i cnt hD hlt HI.out
        rw[←HKK.out] at hpk
        have HP:=Lib.hid hpk
        clear hpk hg
        go_wp2_with fail
        refine HP.out.mono ?_
        rintro e w5 ⟨ov,l,k,rfl,hI5,hrow,hl⟩
        have HI5:=Lib.hid hI5
        clear hI5 HP
        rcases hl with ⟨rfl,rfl⟩ |⟨e1,e2,rfl,rfl,a1,a2,a3,a4,a5,a6⟩
        ·obtain ⟨Ao,co,rfl⟩:=Asm.own_shape hrow
         have hl0:(([]:List Ev).length:Int)=0:=rfl
         clear hrow
         go_wp2_with fail
         go_roundg (300 - (i+1))
         case measure=>have:=Hg.out;have:=Hlt.out;omega
         case rel=>have:=Hlt.out;exact ⟨i+1,cnt,by omega,rfl,by go_num,rfl,by omega,HI5⟩
        ·rcases Go.Proofs.YtaangaogmnlljaaGreatDoor.row_at hrow with ⟨-,q1,-⟩ |⟨ge,ce,rfl,hcl⟩
         ·cases q1
         ·have cell: ∀j u,(ev11 e1++ev11 e2)[j]?=some u→w5.cell? ⟨ge,j,none⟩=some u:=fun j u hu=>by
           have:=hcl j u (by rw[evC_two];exact hu)
           rwa[Addr.add_lit,Nat.zero_add] at this
          have c0:w5.cell? ⟨ge,0,none⟩=some (.int .i64 1):=(cell 0 _ rfl).trans (by rw[a1])
          have c5:w5.cell? ⟨ge,5,none⟩=some (.int .u64 hh):=(cell 5 _ rfl).trans (by rw[a2])
          have c11:w5.cell? ⟨ge,11,none⟩=some (.int .i64 2):=(cell 11 _ rfl).trans (by rw[a3])
          have c15:w5.cell? ⟨ge,15,none⟩=some (.int .i64 n):=(cell 15 _ rfl).trans (by rw[a4])
          have c20:w5.cell? ⟨ge,20,none⟩=some (.int .u64 0):=(cell 20 _ rfl).trans (by rw[a6])
          have c21:w5.cell? ⟨ge,21,none⟩=some (.int .u64 22):=(cell 21 _ rfl).trans (by rw[a5,hcw])
          have hl2:(([e1,e2]:List Ev).length:Int)=2:=rfl
          have hnn:(n !=n)=false:=by simp
          have hh2:(hh !=hh)=false:=by simp
          have hciI:(0:Int)≤(cnt:Int)∧(cnt:Int)≤300:=by omega
          have hwc:IntKind.i64.wrap ((cnt:Int)+1)=(cnt:Int)+1:=by rw[IntKind.wrap_i64];omega
          clear cell hcl hrow a1 a2 a3 a4 a5 a6
          go_wp2_with fail
          go_roundg (300 - (i+1))
          case measure=>have:=Hg.out;have:=Hlt.out;omega
          case rel=>have:=Hlt.out;exact ⟨i+1,cnt+1,by omega,rfl,by go_num,by go_num,by omega,HI5⟩
       ·obtain rfl:i=300:=by omega
        obtain ⟨hcq,own,M,nn,tb,fb,hk,hbw,hu,hfew,hz⟩:=HI.out.over HQ.out.2.1 HQ.out.2.2
        have hq10:=HQ.out.1
        have hcI:(10:Int)<(cnt:Int):=by omega
        have hhd:=handles_any hk hz
        change Calls Tryz.prog 25 #[.pointer (some ⟨G.K,0,none⟩)] wr _ at hhd
        rw[←HKK.out] at hhd
        have HHd:=Lib.hid hhd
        have HUs:Hid (∀W,Below wr.heap.size wr W→Calls Tryz.prog 26 #[.pointer (some ⟨KK,0,none⟩)] W fun e w'=>e= .returned (.int .i64 1)∧Below W.heap.size W w'):=Lib.hid fun W hW=>by
         have h:=kused_any (hk.below hW) (by omega) hfew
         change Calls Tryz.prog 26 #[.pointer (some ⟨G.K,0,none⟩)] W _ at h
         rw[←HKK.out,hu] at h
         exact h
        have HBw:=Lib.hid hbw
        clear hk hz hfew hu hhd hbw hcq hg hlt
        go_wp2_with fail
        refine HHd.out.mono ?_
        rintro e w6 ⟨rfl,hb6⟩
        have HB6:=Lib.hid hb6
        clear hb6 HHd
        go_wp2_with fail
        refine (HUs.out w6 HB6.out).mono ?_
        rintro e w7 ⟨rfl,hb7⟩
        have HB7:Hid (Below w.heap.size w w7):=Lib.hid ((HBw.out.trans (HB6.out.mono HBw.out.size)).trans (hb7.mono (Nat.le_trans HBw.out.size HB6.out.size)))
        clear hb7 HUs
        have HA:=Lib.hid (awake_true w7 (HD.out.below HB7.out hp0))
        go_wp2_with fail
        refine HA.out.mono ?_
        rintro e w8 ⟨rfl,hb8⟩
        have HB8:Hid (Below w.heap.size w w8):=Lib.hid (HB7.out.trans (hb8.mono HB7.out.size))
        clear hb8 HA
        go_wp2_with fail
        go_ret
        exact ⟨rfl,HB8.out⟩
     |false=>
      have hcw:wantOf o=38:=by unfold wantOf;rw[hs];rfl
      go_wp2_with fail
      go_loopg [14,13] 300 (fun g iv nv wr=> ∃(i cnt:Nat),i≤300∧g=300 - i∧iv= .int .i64 (i:Int)∧nv= .int .i64 (cnt:Int)∧cnt≤i∧Hid (DenI B0 F hh w G q i cnt wr))
      case atStart=>exact ⟨0,0,by omega,rfl,rfl,rfl,Nat.le_refl _,HI⟩
      case round=>
       obtain ⟨i,cnt,hi,hg,rfl,rfl,hci,HI⟩:=hrel
       have Hg:=Lib.hid hg
       have hiI:(0:Int)≤(i:Int)∧(i:Int)≤300:=by omega
       by_cases hlt:i<300
       ·have hltI:(i:Int)<300:=by omega
        have Hlt:=Lib.hid hlt
        have hpk:=HPk.out wr G i cnt hD hlt HI.out
        rw[←HKK.out] at hpk
        have HP:=Lib.hid hpk
        clear hpk hg
        go_wp2_with fail
        refine HP.out.mono ?_
        rintro e w5 ⟨ov,l,k,rfl,hI5,hrow,hl⟩
        have HI5:=Lib.hid hI5
        clear hI5 HP
        rcases hl with ⟨rfl,rfl⟩ |⟨e1,e2,rfl,rfl,a1,a2,a3,a4,a5,a6⟩
        ·obtain ⟨Ao,co,rfl⟩:=Asm.own_shape hrow
         have hl0:(([]:List Ev).length:Int)=0:=rfl
         clear hrow
         go_wp2_with fail
         go_roundg (300 - (i+1))
         case measure=>have:=Hg.out;have:=Hlt.out;omega
         case rel=>have:=Hlt.out;exact ⟨i+1,cnt,by omega,rfl,by go_num,rfl,by omega,HI5⟩
        ·rcases Go.Proofs.YtaangaogmnlljaaGreatDoor.row_at hrow with ⟨-,q1,-⟩ |⟨ge,ce,rfl,hcl⟩
         ·cases q1
         ·have cell: ∀j u,(ev11 e1++ev11 e2)[j]?=some u→w5.cell? ⟨ge,j,none⟩=some u:=fun j u hu=>by
           have:=hcl j u (by rw[evC_two];exact hu)
           rwa[Addr.add_lit,Nat.zero_add] at this
          have c0:w5.cell? ⟨ge,0,none⟩=some (.int .i64 1):=(cell 0 _ rfl).trans (by rw[a1])
          have c5:w5.cell? ⟨ge,5,none⟩=some (.int .u64 hh):=(cell 5 _ rfl).trans (by rw[a2])
          have c11:w5.cell? ⟨ge,11,none⟩=some (.int .i64 2):=(cell 11 _ rfl).trans (by rw[a3])
          have c15:w5.cell? ⟨ge,15,none⟩=some (.int .i64 n):=(cell 15 _ rfl).trans (by rw[a4])
          have c20:w5.cell? ⟨ge,20,none⟩=some (.int .u64 0):=(cell 20 _ rfl).trans (by rw[a6])
          have c21:w5.cell? ⟨ge,21,none⟩=some (.int .u64 38):=(cell 21 _ rfl).trans (by rw[a5,hcw])
          have hl2:(([e1,e2]:List Ev).length:Int)=2:=rfl
          have hnn:(n !=n)=false:=by simp
          have hh2:(hh !=hh)=false:=by simp
          have hciI:(0:Int)≤(cnt:Int)∧(cnt:Int)≤300:=by omega
          have hwc:IntKind.i64.wrap ((cnt:Int)+1)=(cnt:Int)+1:=by rw[IntKind.wrap_i64];omega
          clear cell hcl hrow a1 a2 a3 a4 a5 a6
          go_wp2_with fail
          go_roundg (300 - (i+1))
          case measure=>have:=Hg.out;have:=Hlt.out;omega
          case rel=>have:=Hlt.out;exact ⟨i+1,cnt+1,by omega,rfl,by go_num,by go_num,by omega,HI5⟩
       ·obtain rfl:i=300:=by omega
        obtain ⟨hcq,own,M,nn,tb,fb,hk,hbw,hu,hfew,hz⟩:=HI.out.over HQ.out.2.1 HQ.out.2.2
        have hq10:=HQ.out.1
        have hcI:(10:Int)<(cnt:Int):=by omega
        have hhd:=handles_any hk hz
        change Calls Tryz.prog 25 #[.pointer (some ⟨G.K,0,none⟩)] wr _ at hhd
        rw[←HKK.out] at hhd
        have HHd:=Lib.hid hhd
        have HUs:Hid (∀W,Below wr.heap.size wr W→Calls Tryz.prog 26 #[.pointer (some ⟨KK,0,none⟩)] W fun e w'=>e= .returned (.int .i64 1)∧Below W.heap.size W w'):=Lib.hid fun W hW=>by
         have h:=kused_any (hk.below hW) (by omega) hfew
         change Calls Tryz.prog 26 #[.pointer (some ⟨G.K,0,none⟩)] W _ at h
         rw[←HKK.out,hu] at h
         exact h
        have HBw:=Lib.hid hbw
        clear hk hz hfew hu hhd hbw hcq hg hlt
        go_wp2_with fail
        refine HHd.out.mono ?_
        rintro e w6 ⟨rfl,hb6⟩
        have HB6:=Lib.hid hb6
        clear hb6 HHd
        go_wp2_with fail
        refine (HUs.out w6 HB6.out).mono ?_
        rintro e w7 ⟨rfl,hb7⟩
        have HB7:Hid (Below w.heap.size w w7):=Lib.hid ((HBw.out.trans (HB6.out.mono HBw.out.size)).trans (hb7.mono (Nat.le_trans HBw.out.size HB6.out.size)))
        clear hb7 HUs
        have HA:=Lib.hid (awake_true w7 (HD.out.below HB7.out hp0))
        go_wp2_with fail
        refine HA.out.mono ?_
        rintro e w8 ⟨rfl,hb8⟩
        have HB8:Hid (Below w.heap.size w w8):=Lib.hid (HB7.out.trans (hb8.mono HB7.out.size))
        clear hb8 HA
        go_wp2_with fail
        go_ret
        exact ⟨rfl,HB8.out⟩
 ·have e:=(hge hlt).symm
  clear hwr hge
  subst e
  go_enter Tryz.func6,Tryz.ntmps6
  go_wp2_with fail
  clear hlt
  refine HW.out.mono ?_
  rintro e w' ⟨rfl,hw'⟩
  subst hw'
  go_wp2_with fail
  refine HKi.out.mono ?_
  rintro e w1 ⟨rfl,hb1⟩
  go_wp2_with fail
  generalize hw2:w1.alloc _=w2
  have hb2:Below w.heap.size w w2:=by rw[←hw2];exact hb1.alloc hb1.size _
  have z2:w2.heap[w1.heap.size]?=some (.cells #[.int .i64 (kAt o 0), .int .i64 (kAt o 1), .int .i64 (kAt o 2), .int .i64 (kAt o 3)] 64 (0,0)):=by rw[←hw2];exact heap_alloc_new w1 _
  have HB2:=Lib.hid hb2
  have Z2:=Lib.hid z2
  clear hw2 hb1 hb2 z2 HW HKi
  generalize w1.heap.size=bx at*
  go_loopg [8,7] 4 (fun g iv dv wr=> ∃i:Nat,i≤4∧g=4 - i∧iv= .int .i64 (i:Int)∧dv= .bool (denB o i)∧wr=w2)
  case atStart=>exact ⟨0,by omega,rfl,rfl,by cases o<;>rfl,rfl⟩
  case round=>
   obtain ⟨i,hi,hg,rfl,rfl,rfl⟩:=hrel
   have Hg:=Lib.hid hg
   have hiI:(0:Int)≤(i:Int)∧(i:Int)≤4:=by omega
   by_cases hlt:i<4
   ·have hltI:(i:Int)<4:=by omega
    have Hlt:=Lib.hid hlt
    have ck:wr.cell? ⟨bx,i,none⟩=some (.int .i64 (kAt o i)):=by
     obtain rfl|rfl|rfl|rfl:i=0∨i=1∨i=2∨i=3:=by omega
     ·exact blk_cell Z2.out 0
     ·exact blk_cell Z2.out 1
     ·exact blk_cell Z2.out 2
     ·exact blk_cell Z2.out 3
    have hsu:denB o (i+1)=(denB o i||decide (kAt o i≠0)):=rfl
    have HSu:=Lib.hid hsu
    generalize kAt o i=kk at ck HSu
    clear hsu hg hlt
    cases hd:denB o i with
    |true=>
     rw[hd] at HSu
     go_wp2_with fail
     go_roundg (4 - (i+1))
     case measure=>have:=Hg.out;have:=Hlt.out;omega
     case rel=>have:=Hlt.out;exact ⟨i+1,by omega,rfl,by go_num,by rw[HSu.out];rfl,rfl⟩
    |false=>
     rw[hd] at HSu
     by_cases hk:kk=0
     ·subst hk
      go_wp2_with fail
      go_roundg (4 - (i+1))
      case measure=>have:=Hg.out;have:=Hlt.out;omega
      case rel=>have:=Hlt.out;exact ⟨i+1,by omega,rfl,by go_num,by rw[HSu.out];rfl,rfl⟩
     ·have hkb:(kk !=0)=true:=by simp[hk]
      have HK:=Lib.hid hk
      go_wp2_with fail
      go_roundg (4 - (i+1))
      case measure=>have:=Hg.out;have:=Hlt.out;omega
      case rel=>have:=Hlt.out;exact ⟨i+1,by omega,rfl,by go_num,by rw[HSu.out];simp[HK.out],rfl⟩
   ·obtain rfl:i=4:=by omega
    clear hg hlt
    cases hD:denB o 4 with
    |false=>
     have HA:=Lib.hid (awake_true wr (HD.out.below HB2.out hp0))
     go_wp2_with fail
     refine HA.out.mono ?_
     rintro e w3 ⟨rfl,hb3⟩
     have HB3:=Lib.hid hb3
     clear hb3 HA
     go_wp2_with fail
     go_ret
     exact ⟨rfl,HB2.out.trans (HB3.out.mono HB2.out.size)⟩
    |true=>
     go_upto_region 13 with fail
     generalize hw3:wr.alloc _=w3
     have hb3:Below wr.heap.size wr w3:=by rw[←hw3];exact (Below.refl _ _).alloc (Nat.le_refl _) _
     have z3:w3.heap[wr.heap.size]?=some (.cells (codeC (denC hh n)).toArray 68 (0,0)):=by rw[←hw3];exact heap_alloc_new wr _
     have HN:=Lib.hid (HNw.out w3 wr.heap.size (HB2.out.trans (hb3.mono HB2.out.size)) (code5 z3 rfl))
     clear hw3 hb3 z3 Z2 HB2 HNw
     generalize wr.heap.size=cx at*
     go_wp2_with fail
     refine HN.out.mono ?_
     rintro e w4 ⟨G,rfl,hI⟩
     have HI:=Lib.hid hI
     clear hI HN
     obtain ⟨KK,hKK⟩: ∃K,K=G.K:=⟨_,rfl⟩
     rw[←hKK]
     have HKK:=Lib.hid hKK
     clear hKK
     cases hs:o.isSome with
     |true=>
      have hcw:wantOf o=22:=by unfold wantOf;rw[hs];rfl
      go_wp2_with fail
      go_loopg [14,13] 300 (fun g iv nv wr=> ∃(i cnt:Nat),i≤300∧g=300 - i∧iv= .int .i64 (i:Int)∧nv= .int .i64 (cnt:Int)∧cnt≤i∧Hid (DenI B0 F hh w G q i cnt wr))
      case atStart=>exact ⟨0,0,by omega,rfl,rfl,rfl,Nat.le_refl _,HI⟩
      case round=>
       obtain ⟨i,cnt,hi,hg,rfl,rfl,hci,HI⟩:=hrel
       have Hg:=Lib.hid hg
       have hiI:(0:Int)≤(i:Int)∧(i:Int)≤300:=by omega
       by_cases hlt:i<300
       ·have hltI:(i:Int)<300:=by omega
        have Hlt:=Lib.hid hlt
        have hpk:=HPk.out wr G i cnt hD hlt HI.out
        rw[←HKK.out] at hpk
        have HP:=Lib.hid hpk
        clear hpk hg
        go_wp2_with fail
        refine HP.out.mono ?_
        rintro e w5 ⟨ov,l,k,rfl,hI5,hrow,hl⟩
        have HI5:=Lib.hid hI5
        clear hI5 HP
        rcases hl with ⟨rfl,rfl⟩ |⟨e1,e2,rfl,rfl,a1,a2,a3,a4,a5,a6⟩
        ·obtain ⟨Ao,co,rfl⟩:=Asm.own_shape hrow
         have hl0:(([]:List Ev).length:Int)=0:=rfl
         clear hrow
         go_wp2_with fail
         go_roundg (300 - (i+1))
         case measure=>have:=Hg.out;have:=Hlt.out;omega
         case rel=>have:=Hlt.out;exact ⟨i+1,cnt,by omega,rfl,by go_num,rfl,by omega,HI5⟩
        ·rcases Go.Proofs.YtaangaogmnlljaaGreatDoor.row_at hrow with ⟨-,q1,-⟩ |⟨ge,ce,rfl,hcl⟩
         ·cases q1
         ·have cell: ∀j u,(ev11 e1++ev11 e2)[j]?=some u→w5.cell? ⟨ge,j,none⟩=some u:=fun j u hu=>by
           have:=hcl j u (by rw[evC_two];exact hu)
           rwa[Addr.add_lit,Nat.zero_add] at this
          have c0:w5.cell? ⟨ge,0,none⟩=some (.int .i64 1):=(cell 0 _ rfl).trans (by rw[a1])
          have c5:w5.cell? ⟨ge,5,none⟩=some (.int .u64 hh):=(cell 5 _ rfl).trans (by rw[a2])
          have c11:w5.cell? ⟨ge,11,none⟩=some (.int .i64 2):=(cell 11 _ rfl).trans (by rw[a3])
          have c15:w5.cell? ⟨ge,15,none⟩=some (.int .i64 n):=(cell 15 _ rfl).trans (by rw[a4])
          have c20:w5.cell? ⟨ge,20,none⟩=some (.int .u64 0):=(cell 20 _ rfl).trans (by rw[a6])
          have c21:w5.cell? ⟨ge,21,none⟩=some (.int .u64 22):=(cell 21 _ rfl).trans (by rw[a5,hcw])
          have hl2:(([e1,e2]:List Ev).length:Int)=2:=rfl
          have hnn:(n !=n)=false:=by simp
          have hh2:(hh !=hh)=false:=by simp
          have hciI:(0:Int)≤(cnt:Int)∧(cnt:Int)≤300:=by omega
          have hwc:IntKind.i64.wrap ((cnt:Int)+1)=(cnt:Int)+1:=by rw[IntKind.wrap_i64];omega
          clear cell hcl hrow a1 a2 a3 a4 a5 a6
          go_wp2_with fail
          go_roundg (300 - (i+1))
          case measure=>have:=Hg.out;have:=Hlt.out;omega
          case rel=>have:=Hlt.out;exact ⟨i+1,cnt+1,by omega,rfl,by go_num,by go_num,by omega,HI5⟩
       ·obtain rfl:i=300:=by omega
        obtain ⟨hcq,own,M,nn,tb,fb,hk,hbw,hu,hfew,hz⟩:=HI.out.over HQ.out.2.1 HQ.out.2.2
        have hq10:=HQ.out.1
        have hcI:(10:Int)<(cnt:Int):=by omega
        have hhd:=handles_any hk hz
        change Calls Tryz.prog 25 #[.pointer (some ⟨G.K,0,none⟩)] wr _ at hhd
        rw[←HKK.out] at hhd
        have HHd:=Lib.hid hhd
        have HUs:Hid (∀W,Below wr.heap.size wr W→Calls Tryz.prog 26 #[.pointer (some ⟨KK,0,none⟩)] W fun e w'=>e= .returned (.int .i64 1)∧Below W.heap.size W w'):=Lib.hid fun W hW=>by
         have h:=kused_any (hk.below hW) (by omega) hfew
         change Calls Tryz.prog 26 #[.pointer (some ⟨G.K,0,none⟩)] W _ at h
         rw[←HKK.out,hu] at h
         exact h
        have HBw:=Lib.hid hbw
        clear hk hz hfew hu hhd hbw hcq hg hlt
        go_wp2_with fail
        refine HHd.out.mono ?_
        rintro e w6 ⟨rfl,hb6⟩
        have HB6:=Lib.hid hb6
        clear hb6 HHd
        go_wp2_with fail
        refine (HUs.out w6 HB6.out).mono ?_
        rintro e w7 ⟨rfl,hb7⟩
        have HB7:Hid (Below w.heap.size w w7):=Lib.hid ((HBw.out.trans (HB6.out.mono HBw.out.size)).trans (hb7.mono (Nat.le_trans HBw.out.size HB6.out.size)))
        clear hb7 HUs
        have HA:=Lib.hid (awake_true w7 (HD.out.below HB7.out hp0))
        go_wp2_with fail
        refine HA.out.mono ?_
        rintro e w8 ⟨rfl,hb8⟩
        have HB8:Hid (Below w.heap.size w w8):=Lib.hid (HB7.out.trans (hb8.mono HB7.out.size))
        clear hb8 HA
        go_wp2_with fail
        go_ret
        exact ⟨rfl,HB8.out⟩
     |false=>
      have hcw:wantOf o=38:=by unfold wantOf;rw[hs];rfl
      go_wp2_with fail
      go_loopg [14,13] 300 (fun g iv nv wr=> ∃(i cnt:Nat),i≤300∧g=300 - i∧iv= .int .i64 (i:Int)∧nv= .int .i64 (cnt:Int)∧cnt≤i∧Hid (DenI B0 F hh w G q i cnt wr))
      case atStart=>exact ⟨0,0,by omega,rfl,rfl,rfl,Nat.le_refl _,HI⟩
      case round=>
       obtain ⟨i,cnt,hi,hg,rfl,rfl,hci,HI⟩:=hrel
       have Hg:=Lib.hid hg
       have hiI:(0:Int)≤(i:Int)∧(i:Int)≤300:=by omega
       by_cases hlt:i<300
       ·have hltI:(i:Int)<300:=by omega
        have Hlt:=Lib.hid hlt
        have hpk:=HPk.out wr G i cnt hD hlt HI.out
        rw[←HKK.out] at hpk
        have HP:=Lib.hid hpk
        clear hpk hg
        go_wp2_with fail
        refine HP.out.mono ?_
        rintro e w5 ⟨ov,l,k,rfl,hI5,hrow,hl⟩
        have HI5:=Lib.hid hI5
        clear hI5 HP
        rcases hl with ⟨rfl,rfl⟩ |⟨e1,e2,rfl,rfl,a1,a2,a3,a4,a5,a6⟩
        ·obtain ⟨Ao,co,rfl⟩:=Asm.own_shape hrow
         have hl0:(([]:List Ev).length:Int)=0:=rfl
         clear hrow
         go_wp2_with fail
         go_roundg (300 - (i+1))
         case measure=>have:=Hg.out;have:=Hlt.out;omega
         case rel=>have:=Hlt.out;exact ⟨i+1,cnt,by omega,rfl,by go_num,rfl,by omega,HI5⟩
        ·rcases Go.Proofs.YtaangaogmnlljaaGreatDoor.row_at hrow with ⟨-,q1,-⟩ |⟨ge,ce,rfl,hcl⟩
         ·cases q1
         ·have cell: ∀j u,(ev11 e1++ev11 e2)[j]?=some u→w5.cell? ⟨ge,j,none⟩=some u:=fun j u hu=>by
           have:=hcl j u (by rw[evC_two];exact hu)
           rwa[Addr.add_lit,Nat.zero_add] at this
          have c0:w5.cell? ⟨ge,0,none⟩=some (.int .i64 1):=(cell 0 _ rfl).trans (by rw[a1])
          have c5:w5.cell? ⟨ge,5,none⟩=some (.int .u64 hh):=(cell 5 _ rfl).trans (by rw[a2])
          have c11:w5.cell? ⟨ge,11,none⟩=some (.int .i64 2):=(cell 11 _ rfl).trans (by rw[a3])
          have c15:w5.cell? ⟨ge,15,none⟩=some (.int .i64 n):=(cell 15 _ rfl).trans (by rw[a4])
          have c20:w5.cell? ⟨ge,20,none⟩=some (.int .u64 0):=(cell 20 _ rfl).trans (by rw[a6])
          have c21:w5.cell? ⟨ge,21,none⟩=some (.int .u64 38):=(cell 21 _ rfl).trans (by rw[a5,hcw])
          have hl2:(([e1,e2]:List Ev).length:Int)=2:=rfl
          have hnn:(n !=n)=false:=by simp
          have hh2:(hh !=hh)=false:=by simp
          have hciI:(0:Int)≤(cnt:Int)∧(cnt:Int)≤300:=by omega
          have hwc:IntKind.i64.wrap ((cnt:Int)+1)=(cnt:Int)+1:=by rw[IntKind.wrap_i64];omega
          clear cell hcl hrow a1 a2 a3 a4 a5 a6
          go_wp2_with fail
          go_roundg (300 - (i+1))
          case measure=>have:=Hg.out;have:=Hlt.out;omega
          case rel=>have:=Hlt.out;exact ⟨i+1,cnt+1,by omega,rfl,by go_num,by go_num,by omega,HI5⟩
       ·obtain rfl:i=300:=by omega
        obtain ⟨hcq,own,M,nn,tb,fb,hk,hbw,hu,hfew,hz⟩:=HI.out.over HQ.out.2.1 HQ.out.2.2
        have hq10:=HQ.out.1
        have hcI:(10:Int)<(cnt:Int):=by omega
        have hhd:=handles_any hk hz
        change Calls Tryz.prog 25 #[.pointer (some ⟨G.K,0,none⟩)] wr _ at hhd
        rw[←HKK.out] at hhd
        have HHd:=Lib.hid hhd
        have HUs:Hid (∀W,Below wr.heap.size wr W→Calls Tryz.prog 26 #[.pointer (some ⟨KK,0,none⟩)] W fun e w'=>e= .returned (.int .i64 1)∧Below W.heap.size W w'):=Lib.hid fun W hW=>by
         have h:=kused_any (hk.below hW) (by omega) hfew
         change Calls Tryz.prog 26 #[.pointer (some ⟨G.K,0,none⟩)] W _ at h
         rw[←HKK.out,hu] at h
         exact h
        have HBw:=Lib.hid hbw
        clear hk hz hfew hu hhd hbw hcq hg hlt
        go_wp2_with fail
        refine HHd.out.mono ?_
        rintro e w6 ⟨rfl,hb6⟩
        have HB6:=Lib.hid hb6
        clear hb6 HHd
        go_wp2_with fail
        refine (HUs.out w6 HB6.out).mono ?_
        rintro e w7 ⟨rfl,hb7⟩
        have HB7:Hid (Below w.heap.size w w7):=Lib.hid ((HBw.out.trans (HB6.out.mono HBw.out.size)).trans (hb7.mono (Nat.le_trans HBw.out.size HB6.out.size)))
        clear hb7 HUs
        have HA:=Lib.hid (awake_true w7 (HD.out.below HB7.out hp0))
        go_wp2_with fail
        refine HA.out.mono ?_
        rintro e w8 ⟨rfl,hb8⟩
        have HB8:Hid (Below w.heap.size w w8):=Lib.hid (HB7.out.trans (hb8.mono HB7.out.size))
        clear hb8 HA
        go_wp2_with fail
        go_ret
        exact ⟨rfl,HB8.out⟩
end Go.Proofs.YtaangaogmnlljaaGreatDoor.Kn
