/- Part 39 of what the proof stands on: KnRef. -/
import Derived.Test.YtaangaogmnlljaaGreatDoorP38
set_option linter.unusedVariables false
namespace Go.Proofs.YtaangaogmnlljaaGreatDoor.Kn
open Go.RowKit Asm
section
variable {F:Fixed} {w:World} {own:Own} {G:KG} {M:Mach} {n:Nat}
theorem refused_of {r:Run} {num a0 a1 a2 a3:Int} {x:RowL} (h:rowOf F.calls num=some x) (h7: ¬(7≤r.l.length∧num≠2)):refused F M r num a0 a1 a2 a3=if (kindOk F M x.k0 a0&&kindOk F M x.k1 a1&&kindOk F M x.k2 a2&&kindOk F M x.k3 a3)=true then 0 else 22:=by
 unfold refused
 rw[h]
 simp only
 rw[if_neg h7]
def kOk (F:Fixed) (M:Mach) (x:RowL) (a0 a1 a2 a3:Int) (i:Nat):Prop:=(0<i→kindOk F M x.k0 a0=true)∧(1<i→kindOk F M x.k1 a1=true)∧(2<i→kindOk F M x.k2 a2=true)∧(3<i→kindOk F M x.k3 a3=true)
def ResOf (F:Fixed) (M:Mach) (x:RowL) (a0 a1 a2 a3 res:Int):Prop:=res=if (kindOk F M x.k0 a0&&kindOk F M x.k1 a1&&kindOk F M x.k2 a2&&kindOk F M x.k3 a3)=true then 0 else 22
theorem ResOf.bad {x:RowL} {a0 a1 a2 a3 res:Int} (h:ResOf F M x a0 a1 a2 a3 res) (hb:(kindOk F M x.k0 a0&&kindOk F M x.k1 a1&&kindOk F M x.k2 a2&&kindOk F M x.k3 a3)=false):Ending.returned (.int .u64 22)= .returned (.int .u64 res):=by
 unfold ResOf at h
 rw[h,hb]
 rfl
theorem ResOf.good {x:RowL} {a0 a1 a2 a3 res:Int} (h:ResOf F M x a0 a1 a2 a3 res) (hb:kOk F M x a0 a1 a2 a3 4):Ending.returned (.int .u64 0)= .returned (.int .u64 res):=by
 unfold ResOf at h
 rw[h,hb.1 (by omega),hb.2.1 (by omega),hb.2.2.1 (by omega),hb.2.2.2 (by omega)]
 rfl
theorem kind_none {k:Int} (a:Int) (h:k=0):kindOk F M k a=true:=by unfold kindOk;rw[if_pos h]
theorem kOk_succ0 {x:RowL} {a0 a1 a2 a3:Int} (_:kOk F M x a0 a1 a2 a3 0) (e:kindOk F M x.k0 a0=true):kOk F M x a0 a1 a2 a3 1:=⟨fun _=>e,fun h=>absurd h (by omega),fun h=>absurd h (by omega),fun h=>absurd h (by omega)⟩
theorem kOk_succ1 {x:RowL} {a0 a1 a2 a3:Int} (h:kOk F M x a0 a1 a2 a3 1) (e:kindOk F M x.k1 a1=true):kOk F M x a0 a1 a2 a3 2:=⟨fun _=>h.1 (by omega),fun _=>e,fun h=>absurd h (by omega),fun h=>absurd h (by omega)⟩
theorem kOk_succ2 {x:RowL} {a0 a1 a2 a3:Int} (h:kOk F M x a0 a1 a2 a3 2) (e:kindOk F M x.k2 a2=true):kOk F M x a0 a1 a2 a3 3:=⟨fun _=>h.1 (by omega),fun _=>h.2.1 (by omega),fun _=>e,fun h=>absurd h (by omega)⟩
theorem kOk_succ3 {x:RowL} {a0 a1 a2 a3:Int} (h:kOk F M x a0 a1 a2 a3 3) (e:kindOk F M x.k3 a3=true):kOk F M x a0 a1 a2 a3 4:=⟨fun _=>h.1 (by omega),fun _=>h.2.1 (by omega),fun _=>h.2.2.1 (by omega),fun _=>e⟩
def FindEnd (r:Option Int) (e:Ending):Prop:=match r with
 |some a=>e= .returned (.tuple #[.int .u64 a, .nilIface])
 |none=> ∃t y,e= .returned (.tuple #[.int .u64 0, .iface t y])
theorem FindOut.parts {r:Option Int} {e:Ending} {w':World} (h:FindOut w r e w'):FindEnd r e∧Below w.heap.size w w':=by
 cases r with
 |none=>
  obtain ⟨⟨ev,rfl,t,y,rfl⟩,hb⟩:=h
  exact ⟨⟨t,y,rfl⟩,hb⟩
 |some a=>exact h
set_option maxRecDepth 100000 in
set_option maxHeartbeats 4000000 in
theorem refused_a (h:KernP F w own G M n) {id:Int} {r:Run} (hr:runOf M.runs id=some r) (num:Int) (hnum:0≤num∧num<1000) (a0 a1 a2 a3:Int) (u0:U64 a0) (u1:U64 a1) (u2:U64 a2) (u3:U64 a3) (hv: ¬7≤r.l.length):
  Calls Tryz.prog 255 #[.pointer (some ⟨G.K,0,none⟩), .pointer (some ⟨G.tb id,0,none⟩), .int .i64 num, .agg #[.int .u64 a0, .int .u64 a1, .int .u64 a2, .int .u64 a3]] w fun e w'=>e= .returned (.int .u64 (refused F M r num a0 a1 a2 a3))∧KO F w own G M n w':=by
 obtain ⟨k,hk⟩:=Int.eq_ofNat_of_zero_le hnum.1
 subst hk
 have hk2:k<1000:=by omega
 obtain ⟨w1,hw1⟩: ∃w1,w1=(w.alloc (.cells #[.int .u64 a0, .int .u64 a1, .int .u64 a2, .int .u64 a3] 69)):=⟨_,rfl⟩
 have l3:Below w.heap.size w w1:=by rw[hw1];exact below_al (Below.refl _ _) _
 have l1:w1.heap[w.heap.size]?=some (.cells #[.int .u64 a0, .int .u64 a1, .int .u64 a2, .int .u64 a3] 69 (0,0)):=by rw[hw1];exact heap_alloc_new w _
 have h1:=h.below l3
 have t1:Touch (fun t=>t≠ .other) w w1 own (ext own w.heap.size .other):=touch_below l3
 have B4:BoxAt w1 (ext own w.heap.size .other) w.heap.size _ 69:=⟨l1,ext_tag (Or.inr (Nat.le_refl _))⟩
 generalize ext own w.heap.size .other=own1 at h1 t1 B4
 have row:w1.cell? ⟨G.K,7+k,none⟩=some (.int .i64 (rowIx F.calls k:Nat)):=h1.kcell fun _ _ hc=>hc.rows k hk2
 have H1:=Lib.hid h1
 have HT1:=Lib.hid t1
 have HB4:=Lib.hid B4
 have HR:=Lib.hid hr
 have HV:=Lib.hid hv
 clear hv
 cases hrow:rowOf F.calls k with
 |none=>
  rw[rowIx_none hrow] at row
  have er:refused F M r k a0 a1 a2 a3=38:=by unfold refused;rw[hrow]
  rw[er]
  clear h h1 t1 B4 l1 l3 hrow er hr
  go_enter Tryz.func255,Tryz.ntmps255
  go_upto_region 1 with fail
  rw[←hw1]
  clear hw1
  go_wp2_with fail
  go_ret
  exact ⟨rfl,own1,H1.out,HT1.out⟩
 |some x=>
  obtain ⟨p,hpx,hp⟩:=rowIx_some hrow
  rw[hpx] at row
  obtain ⟨gc,cc,hcv,hrc,hgc,hgl⟩:=h1.fix.calls.rowAt hp
  have kc:w1.cell? ⟨G.K,2,none⟩=some G.cv:=h1.kcell fun _ _ hc=>hc.calls
  rw[hcv] at kc
  have hpl:=(List.getElem?_eq_some_iff.1 hp).1
  have hfew:=h1.fok.few
  have r2:w1.cell? ⟨gc,p*6+2,none⟩=some (.int .i64 x.k0):=hrc 2 (by decide)
  have r3:w1.cell? ⟨gc,p*6+2+1,none⟩=some (.int .i64 x.k1):=hrc 3 (by decide)
  have r4:w1.cell? ⟨gc,p*6+2+2,none⟩=some (.int .i64 x.k2):=hrc 4 (by decide)
  have r5:w1.cell? ⟨gc,p*6+2+3,none⟩=some (.int .i64 x.k3):=hrc 5 (by decide)
  obtain ⟨c0,⟨lv,cl,hrl⟩,-,-,cfz⟩:=h1.thr_cells hr
  obtain ⟨lA,lc,hlv⟩:=Asm.own_shape hrl.1
  have hlen:r.l.length≤100:=(h1.runs.each r (runOf_mem hr).1).few
  subst hlv
  have hKl:=h1.klt
  have hRef: ∀_: ¬(7≤r.l.length∧(k:Int)≠2),refused F M r k a0 a1 a2 a3=_:=fun e=>refused_of hrow e
  have hE11:7≤r.l.length∧(k:Int)≠2→refused F M r k a0 a1 a2 a3=11:=fun e=>by unfold refused;rw[hrow];simp only;rw[if_pos e]
  have hLI:(0:Int)≤(r.l.length:Int)∧(r.l.length:Int)≤100:=by omega
  generalize hL:r.l.length=L at*
  have hpI:(0:Int)≤(p:Int)∧(p:Int)<(F.calls.length:Int):=by omega
  have hpw:IntKind.i64.wrap ((p:Int)+1 - 1)=(p:Int):=by rw[IntKind.wrap_i64];omega
  have hpw2:IntKind.i64.wrap (p:Int)=(p:Int):=by rw[IntKind.wrap_i64];omega
  have hp1:((p:Int)+1==0)=false:=beq_eq_false_iff_ne.2 (by omega)
  have hcast:((p+1:Nat):Int)=(p:Int)+1:=by omega
  rw[hcast] at row
  generalize F.calls.length=NC at*
  clear h h1 t1 B4 l1 l3 hrow hr hpx hp hcv hrc hgc hgl hpl hfew hrl cfz hcast
  by_cases h7:7≤L∧(k:Int)≠2
  ·rw[hE11 h7]
   have f7:decide ((7:Int)≤(L:Int))=true:=decide_eq_true (by omega)
   have f2:((k:Int)==2)=false:=beq_eq_false_iff_ne.2 h7.2
   clear hE11 hRef h7
   go_enter Tryz.func255,Tryz.ntmps255
   go_upto_region 1 with fail
   rw[←hw1]
   clear hw1
   go_wp2_with fail
   go_ret
   exact ⟨rfl,own1,H1.out,HT1.out⟩
  ·have HRes:Hid (ResOf F M x a0 a1 a2 a3 (refused F M r k a0 a1 a2 a3)):=Lib.hid (hRef h7)
   generalize refused F M r k a0 a1 a2 a3=res at*
   have h7':(¬7≤L)∨(7≤L∧(k:Int)=2):=by omega
   have HFc:=Lib.hid (fun (W:World) (o:Own) (q:KernP F W o G M n)=>cells_any q)
   have HU:Hid (U64 a0∧U64 a1∧U64 a2∧U64 a3):=Lib.hid ⟨u0,u1,u2,u3⟩
   clear hE11 hRef h7 u0 u1 u2 u3
   rcases h7' with q|⟨q,q2⟩
   ·have f7:decide ((7:Int)≤(L:Int))=false:=decide_eq_false (by omega)
    clear q
    go_enter Tryz.func255,Tryz.ntmps255
    go_upto_region 1 with fail
    rw[←hw1]
    clear hw1
    go_wp2_with fail
    go_quiet (fail)
    go_wp2_with fail
    obtain ⟨w2,hw2⟩: ∃w2,w2=w1.drewN nq:=⟨_,rfl⟩
    have H2:Hid (KernP F w2 own1 G M n):=Lib.hid (by rw[hw2];exact H1.out.drewN nq)
    have HT2:Hid (Touch (fun t=>t≠ .other) w w2 own own1):=Lib.hid (by rw[hw2];exact HT1.out.trans (touch_drewN w1 own1 nq))
    have HB2:Hid (BoxAt w2 own1 w.heap.size #[.int .u64 a0, .int .u64 a1, .int .u64 a2, .int .u64 a3] 69):=Lib.hid (by rw[hw2];exact HB4.out.drawn nq)
    try rw[←hw2]
    clear hw2 row kc r2 r3 r4 r5 cl c0 H1 HT1 HB4 hKl hLI f7 hpI hpw hpw2 hp1 hnum hL hlen
    generalize w.heap.size=bx at*
    go_loopw [49] (fun iv wr=> ∃i:Nat,i≤4∧iv= .int .i64 (i:Int)∧Hid (kOk F M x a0 a1 a2 a3 i)∧Hid (∃o,KernP F wr o G M n∧Touch (fun t=>t≠ .other) w wr own o∧BoxAt wr o bx #[.int .u64 a0, .int .u64 a1, .int .u64 a2, .int .u64 a3] 69)) (fun iv _=>4 - (intOf iv).toNat)
    case atStart=>exact ⟨0,by omega,rfl,Lib.hid ⟨fun e=>absurd e (by omega),fun e=>absurd e (by omega),fun e=>absurd e (by omega),fun e=>absurd e (by omega)⟩,Lib.hid ⟨own1,H2.out,HT2.out,HB2.out⟩⟩
    obtain ⟨i,hi,rfl,HKO,HS⟩:=hrel
    obtain ⟨o,h3,t3,b3⟩:=HS.out
    have H3:=Lib.hid h3
    have HT3:=Lib.hid t3
    have HB3:=Lib.hid b3
    clear HS h3 t3 b3 H2 HT2 HB2
    rcases (by omega:i=0∨i=1∨i=2∨i=3∨i=4) with rfl|rfl|rfl|rfl|rfl
    ·
     have hix: ∀(W:World),(Instr.index 64 (.agg #[.int .i64 x.k0, .int .i64 x.k1, .int .i64 x.k2, .int .i64 x.k3]) (.int .i64 (0:Int))).run Tryz.prog W= .ok (.int .i64 x.k0) W:=fun W=>by kernel_rfl
     have HKind:=Lib.hid (rfl:x.k0=x.k0)
     by_cases e0:x.k0=0
     ·have HE:=Lib.hid (kind_none (F:=F) (M:=M) a0 e0)
      have HX:Hid (KernP F wr o G M n∧Touch (fun t=>t≠ .other) w wr own o∧BoxAt wr o bx #[.int .u64 a0, .int .u64 a1, .int .u64 a2, .int .u64 a3] 69):=Lib.hid ⟨H3.out,HT3.out,HB3.out⟩
      have f0:(x.k0==0)=true:=beq_iff_eq.2 e0
      clear e0
      go_wp2_with fail
      go_roundw
      case rel=>
       first
        |exact ⟨1,by omega,by go_num,Lib.hid (kOk_succ0 HKO.out HE.out),Lib.hid ⟨_,HX.out⟩⟩
        |exact ⟨_,_,_,_,_,_,⟨1,by omega,by go_num,Lib.hid (kOk_succ0 HKO.out HE.out),Lib.hid ⟨_,HX.out⟩⟩,rfl,rfl,rfl,rfl,rfl,rfl⟩
        |exact ⟨_,_,_,_,_,_,_,_,_,_,_,_,_,_,_,_,_,_,_,_,_,_,_,_,_,_,_,_,_,_,_,_,_,_,_,_,⟨1,by omega,by go_num,Lib.hid (kOk_succ0 HKO.out HE.out),Lib.hid ⟨_,HX.out⟩⟩,rfl⟩
      case measure=>simp[intOf]
     ·have f0:(x.k0==0)=false:=beq_eq_false_iff_ne.2 e0
      by_cases e7:x.k0=7
      ·have f1:(x.k0==7)=true:=beq_iff_eq.2 e7
       have HE7:=Lib.hid e7
       have HU0:Hid (U64 a0):=Lib.hid HU.out.1
       clear e0 e7
       have HCl:Hid (Calls Tryz.prog 169 #[.pointer (some ⟨G.K,0,none⟩)] wr.drew fun e W=>e= .returned (.int .i64 F.cells)∧W.cell? ⟨bx,0,none⟩=some (.int .u64 a0)∧ ∃o,KernP F W o G M n∧Touch (fun t=>t≠ .other) w W own o∧BoxAt W o bx #[.int .u64 a0, .int .u64 a1, .int .u64 a2, .int .u64 a3] 69):=Lib.hid (by
        refine (HFc.out _ _ H3.out.drew).mono ?_
        rintro e W ⟨rfl,hb⟩
        have tb:=touch_below (ts:=fun t=>t≠ .other) (t:= .other) (own:=o) hb
        have E:=BoxAt.move (w:=wr.drew) HB3.out tb
        exact ⟨rfl,E.cells.2 0,_,H3.out.drew.below hb,(HT3.out.trans (touch_drew wr o)).trans tb,E⟩)
       have c0:wr.cell? ⟨bx,0,none⟩=some (.int .u64 a0):=HB3.out.cells.2 0
       have HBase:Hid (0≤F.cells∧F.cells≤256):=Lib.hid (by have:=H3.out.fok.wide;unfold Fixed.cells;omega)
       have hcw:IntKind.u64.wrap F.cells=F.cells:=by have:=HBase.out;rw[IntKind.wrap_u64];omega
       generalize hnc:F.cells=nc at*
       have HNc:=Lib.hid hnc
       clear hnc
       go_wp2_with fail
       go_region_held3 (fun W=>W.cell? ⟨bx,0,none⟩=some (.int .u64 a0)) (first|exact c0|exact z0|go_keep) (first|(go_at_call 169;refine HCl.out.mono ?_;rintro e w3 ⟨rfl,z0,hx⟩))
       obtain ⟨o4,hx⟩:=hx
       have HX:=Lib.hid hx
       clear hx z0
       by_cases hge:nc≤a0
       ·have fge:decide (nc≤a0)=true:=decide_eq_true hge
        have HBad:Hid (kindOk F M x.k0 a0=false):=Lib.hid (by unfold kindOk;rw[HE7.out,HNc.out];simp;omega)
        go_wp2_with fail
        go_ret
        obtain ⟨k1,k2⟩:=HX.out
        exact ⟨HRes.out.bad (by rw[HBad.out];simp),_,k1,k2.1⟩
       ·have fge:decide (nc≤a0)=false:=decide_eq_false hge
        have hge2:a0<nc:=by omega
        have HE:Hid (kindOk F M x.k0 a0=true):=Lib.hid (by unfold kindOk;rw[HE7.out,HNc.out];simp;omega)
        go_wp2_with fail
        go_roundw
        case rel=>
         first
          |exact ⟨1,by omega,by go_num,Lib.hid (kOk_succ0 HKO.out HE.out),Lib.hid ⟨_,HX.out⟩⟩
          |exact ⟨_,_,_,_,_,_,⟨1,by omega,by go_num,Lib.hid (kOk_succ0 HKO.out HE.out),Lib.hid ⟨_,HX.out⟩⟩,rfl,rfl,rfl,rfl,rfl,rfl⟩
          |exact ⟨_,_,_,_,_,_,_,_,_,_,_,_,_,_,_,_,_,_,_,_,_,_,_,_,_,_,_,_,_,_,_,_,_,_,_,_,⟨1,by omega,by go_num,Lib.hid (kOk_succ0 HKO.out HE.out),Lib.hid ⟨_,HX.out⟩⟩,rfl⟩
        case measure=>simp[intOf]
      ·have f1:(x.k0==7)=false:=beq_eq_false_iff_ne.2 e7
       have HE0:=Lib.hid e0
       have HE7:=Lib.hid e7
       clear e0 e7
       have km:wr.cell? ⟨G.K,1013,none⟩=some (.pointer (some ⟨G.O,0,none⟩)):=(H3.out.kcells).2.2.2.2.2.2.1
       have c0:wr.cell? ⟨bx,0,none⟩=some (.int .u64 a0):=HB3.out.cells.2 0
       have HFd:Hid (Calls Tryz.prog 256 #[.pointer (some ⟨G.O,0,none⟩), .int .u64 a0, .int .i64 x.k0] wr.drew fun e W=>FindEnd (findO M.objs a0 x.k0) e∧(W.cell? ⟨G.K,1013,none⟩=some (.pointer (some ⟨G.O,0,none⟩))∧W.cell? ⟨bx,0,none⟩=some (.int .u64 a0))∧ ∃o,KernP F W o G M n∧Touch (fun t=>t≠ .other) w W own o∧BoxAt W o bx #[.int .u64 a0, .int .u64 a1, .int .u64 a2, .int .u64 a3] 69):=Lib.hid (by
        refine (kfind H3.out.drew a0 x.k0 HU.out.1).mono fun e W hq=>?_
        obtain ⟨q1,hb⟩:=FindOut.parts hq
        have tb:=touch_below (ts:=fun t=>t≠ .other) (t:= .other) (own:=o) hb
        have E:=BoxAt.move (w:=wr.drew) HB3.out tb
        have h5:=H3.out.drew.below hb
        exact ⟨q1,⟨(h5.kcells).2.2.2.2.2.2.1,E.cells.2 0⟩,_,h5,(HT3.out.trans (touch_drew wr o)).trans tb,E⟩)
       cases hfo:findO M.objs a0 x.k0 with
       |none=>
        rw[hfo] at HFd
        have HBad:Hid (kindOk F M x.k0 a0=false):=Lib.hid (by unfold kindOk;rw[if_neg HE0.out,if_neg HE7.out,hfo];rfl)
        clear hfo
        go_wp2_with fail
        go_region_held3 (fun W=>W.cell? ⟨G.K,1013,none⟩=some (.pointer (some ⟨G.O,0,none⟩))∧W.cell? ⟨bx,0,none⟩=some (.int .u64 a0)) (first|exact ⟨km,c0⟩ |exact ⟨z0,z1⟩ |go_keep) (first|(go_at_call 256;refine HFd.out.mono ?_;rintro e w3 ⟨⟨te,xe,rfl⟩,⟨z0,z1⟩,hx⟩))
        obtain ⟨o4,hx⟩:=hx
        have HX:=Lib.hid hx
        clear hx z0 z1
        go_wp2_with fail
        go_ret
        obtain ⟨k1,k2⟩:=HX.out
        exact ⟨HRes.out.bad (by rw[HBad.out];simp),_,k1,k2.1⟩
       |some v=>
        rw[hfo] at HFd
        have HE:Hid (kindOk F M x.k0 a0=true):=Lib.hid (by unfold kindOk;rw[if_neg HE0.out,if_neg HE7.out,hfo];rfl)
        clear hfo
        go_wp2_with fail
        go_region_held3 (fun W=>W.cell? ⟨G.K,1013,none⟩=some (.pointer (some ⟨G.O,0,none⟩))∧W.cell? ⟨bx,0,none⟩=some (.int .u64 a0)) (first|exact ⟨km,c0⟩ |exact ⟨z0,z1⟩ |go_keep) (first|(go_at_call 256;refine HFd.out.mono ?_;rintro e w3 ⟨rfl,⟨z0,z1⟩,hx⟩))
        obtain ⟨o4,hx⟩:=hx
        have HX:=Lib.hid hx
        clear hx z0 z1
        go_wp2_with fail
        go_roundw
        case rel=>
         first
          |exact ⟨1,by omega,by go_num,Lib.hid (kOk_succ0 HKO.out HE.out),Lib.hid ⟨_,HX.out⟩⟩
          |exact ⟨_,_,_,_,_,_,⟨1,by omega,by go_num,Lib.hid (kOk_succ0 HKO.out HE.out),Lib.hid ⟨_,HX.out⟩⟩,rfl,rfl,rfl,rfl,rfl,rfl⟩
          |exact ⟨_,_,_,_,_,_,_,_,_,_,_,_,_,_,_,_,_,_,_,_,_,_,_,_,_,_,_,_,_,_,_,_,_,_,_,_,⟨1,by omega,by go_num,Lib.hid (kOk_succ0 HKO.out HE.out),Lib.hid ⟨_,HX.out⟩⟩,rfl⟩
        case measure=>simp[intOf]
    ·
     have hix: ∀(W:World),(Instr.index 64 (.agg #[.int .i64 x.k0, .int .i64 x.k1, .int .i64 x.k2, .int .i64 x.k3]) (.int .i64 (1:Int))).run Tryz.prog W= .ok (.int .i64 x.k1) W:=fun W=>by kernel_rfl
     have HKind:=Lib.hid (rfl:x.k1=x.k1)
     by_cases e0:x.k1=0
     ·have HE:=Lib.hid (kind_none (F:=F) (M:=M) a1 e0)
      have HX:Hid (KernP F wr o G M n∧Touch (fun t=>t≠ .other) w wr own o∧BoxAt wr o bx #[.int .u64 a0, .int .u64 a1, .int .u64 a2, .int .u64 a3] 69):=Lib.hid ⟨H3.out,HT3.out,HB3.out⟩
      have f0:(x.k1==0)=true:=beq_iff_eq.2 e0
      clear e0
      go_wp2_with fail
      go_roundw
      case rel=>
       first
        |exact ⟨2,by omega,by go_num,Lib.hid (kOk_succ1 HKO.out HE.out),Lib.hid ⟨_,HX.out⟩⟩
        |exact ⟨_,_,_,_,_,_,⟨2,by omega,by go_num,Lib.hid (kOk_succ1 HKO.out HE.out),Lib.hid ⟨_,HX.out⟩⟩,rfl,rfl,rfl,rfl,rfl,rfl⟩
        |exact ⟨_,_,_,_,_,_,_,_,_,_,_,_,_,_,_,_,_,_,_,_,_,_,_,_,_,_,_,_,_,_,_,_,_,_,_,_,⟨2,by omega,by go_num,Lib.hid (kOk_succ1 HKO.out HE.out),Lib.hid ⟨_,HX.out⟩⟩,rfl⟩
      case measure=>simp[intOf]
     ·have f0:(x.k1==0)=false:=beq_eq_false_iff_ne.2 e0
      by_cases e7:x.k1=7
      ·have f1:(x.k1==7)=true:=beq_iff_eq.2 e7
       have HE7:=Lib.hid e7
       have HU1:Hid (U64 a1):=Lib.hid HU.out.2.1
       clear e0 e7
       have HCl:Hid (Calls Tryz.prog 169 #[.pointer (some ⟨G.K,0,none⟩)] wr.drew fun e W=>e= .returned (.int .i64 F.cells)∧W.cell? ⟨bx,1,none⟩=some (.int .u64 a1)∧ ∃o,KernP F W o G M n∧Touch (fun t=>t≠ .other) w W own o∧BoxAt W o bx #[.int .u64 a0, .int .u64 a1, .int .u64 a2, .int .u64 a3] 69):=Lib.hid (by
        refine (HFc.out _ _ H3.out.drew).mono ?_
        rintro e W ⟨rfl,hb⟩
        have tb:=touch_below (ts:=fun t=>t≠ .other) (t:= .other) (own:=o) hb
        have E:=BoxAt.move (w:=wr.drew) HB3.out tb
        exact ⟨rfl,E.cells.2 1,_,H3.out.drew.below hb,(HT3.out.trans (touch_drew wr o)).trans tb,E⟩)
       have c1:wr.cell? ⟨bx,1,none⟩=some (.int .u64 a1):=HB3.out.cells.2 1
       have HBase:Hid (0≤F.cells∧F.cells≤256):=Lib.hid (by have:=H3.out.fok.wide;unfold Fixed.cells;omega)
       have hcw:IntKind.u64.wrap F.cells=F.cells:=by have:=HBase.out;rw[IntKind.wrap_u64];omega
       generalize hnc:F.cells=nc at*
       have HNc:=Lib.hid hnc
       clear hnc
       go_wp2_with fail
       go_region_held3 (fun W=>W.cell? ⟨bx,1,none⟩=some (.int .u64 a1)) (first|exact c1|exact z0|go_keep) (first|(go_at_call 169;refine HCl.out.mono ?_;rintro e w3 ⟨rfl,z0,hx⟩))
       obtain ⟨o4,hx⟩:=hx
       have HX:=Lib.hid hx
       clear hx z0
       by_cases hge:nc≤a1
       ·have fge:decide (nc≤a1)=true:=decide_eq_true hge
        have HBad:Hid (kindOk F M x.k1 a1=false):=Lib.hid (by unfold kindOk;rw[HE7.out,HNc.out];simp;omega)
        go_wp2_with fail
        go_ret
        obtain ⟨k1,k2⟩:=HX.out
        exact ⟨HRes.out.bad (by rw[HBad.out];simp),_,k1,k2.1⟩
       ·have fge:decide (nc≤a1)=false:=decide_eq_false hge
        have hge2:a1<nc:=by omega
        have HE:Hid (kindOk F M x.k1 a1=true):=Lib.hid (by unfold kindOk;rw[HE7.out,HNc.out];simp;omega)
        go_wp2_with fail
        go_roundw
        case rel=>
         first
          |exact ⟨2,by omega,by go_num,Lib.hid (kOk_succ1 HKO.out HE.out),Lib.hid ⟨_,HX.out⟩⟩
          |exact ⟨_,_,_,_,_,_,⟨2,by omega,by go_num,Lib.hid (kOk_succ1 HKO.out HE.out),Lib.hid ⟨_,HX.out⟩⟩,rfl,rfl,rfl,rfl,rfl,rfl⟩
          |exact ⟨_,_,_,_,_,_,_,_,_,_,_,_,_,_,_,_,_,_,_,_,_,_,_,_,_,_,_,_,_,_,_,_,_,_,_,_,⟨2,by omega,by go_num,Lib.hid (kOk_succ1 HKO.out HE.out),Lib.hid ⟨_,HX.out⟩⟩,rfl⟩
        case measure=>simp[intOf]
      ·have f1:(x.k1==7)=false:=beq_eq_false_iff_ne.2 e7
       have HE0:=Lib.hid e0
       have HE7:=Lib.hid e7
       clear e0 e7
       have km:wr.cell? ⟨G.K,1013,none⟩=some (.pointer (some ⟨G.O,0,none⟩)):=(H3.out.kcells).2.2.2.2.2.2.1
       have c1:wr.cell? ⟨bx,1,none⟩=some (.int .u64 a1):=HB3.out.cells.2 1
       have HFd:Hid (Calls Tryz.prog 256 #[.pointer (some ⟨G.O,0,none⟩), .int .u64 a1, .int .i64 x.k1] wr.drew fun e W=>FindEnd (findO M.objs a1 x.k1) e∧(W.cell? ⟨G.K,1013,none⟩=some (.pointer (some ⟨G.O,0,none⟩))∧W.cell? ⟨bx,1,none⟩=some (.int .u64 a1))∧ ∃o,KernP F W o G M n∧Touch (fun t=>t≠ .other) w W own o∧BoxAt W o bx #[.int .u64 a0, .int .u64 a1, .int .u64 a2, .int .u64 a3] 69):=Lib.hid (by
        refine (kfind H3.out.drew a1 x.k1 HU.out.2.1).mono fun e W hq=>?_
        obtain ⟨q1,hb⟩:=FindOut.parts hq
        have tb:=touch_below (ts:=fun t=>t≠ .other) (t:= .other) (own:=o) hb
        have E:=BoxAt.move (w:=wr.drew) HB3.out tb
        have h5:=H3.out.drew.below hb
        exact ⟨q1,⟨(h5.kcells).2.2.2.2.2.2.1,E.cells.2 1⟩,_,h5,(HT3.out.trans (touch_drew wr o)).trans tb,E⟩)
       cases hfo:findO M.objs a1 x.k1 with
       |none=>
        rw[hfo] at HFd
        have HBad:Hid (kindOk F M x.k1 a1=false):=Lib.hid (by unfold kindOk;rw[if_neg HE0.out,if_neg HE7.out,hfo];rfl)
        clear hfo
        go_wp2_with fail
        go_region_held3 (fun W=>W.cell? ⟨G.K,1013,none⟩=some (.pointer (some ⟨G.O,0,none⟩))∧W.cell? ⟨bx,1,none⟩=some (.int .u64 a1)) (first|exact ⟨km,c1⟩ |exact ⟨z0,z1⟩ |go_keep) (first|(go_at_call 256;refine HFd.out.mono ?_;rintro e w3 ⟨⟨te,xe,rfl⟩,⟨z0,z1⟩,hx⟩))
        obtain ⟨o4,hx⟩:=hx
        have HX:=Lib.hid hx
        clear hx z0 z1
        go_wp2_with fail
        go_ret
        obtain ⟨k1,k2⟩:=HX.out
        exact ⟨HRes.out.bad (by rw[HBad.out];simp),_,k1,k2.1⟩
       |some v=>
        rw[hfo] at HFd
        have HE:Hid (kindOk F M x.k1 a1=true):=Lib.hid (by unfold kindOk;rw[if_neg HE0.out,if_neg HE7.out,hfo];rfl)
        clear hfo
        go_wp2_with fail
        go_region_held3 (fun W=>W.cell? ⟨G.K,1013,none⟩=some (.pointer (some ⟨G.O,0,none⟩))∧W.cell? ⟨bx,1,none⟩=some (.int .u64 a1)) (first|exact ⟨km,c1⟩ |exact ⟨z0,z1⟩ |go_keep) (first|(go_at_call 256;refine HFd.out.mono ?_;rintro e w3 ⟨rfl,⟨z0,z1⟩,hx⟩))
        obtain ⟨o4,hx⟩:=hx
        have HX:=Lib.hid hx
        clear hx z0 z1
        go_wp2_with fail
        go_roundw
        case rel=>
         first
          |exact ⟨2,by omega,by go_num,Lib.hid (kOk_succ1 HKO.out HE.out),Lib.hid ⟨_,HX.out⟩⟩
          |exact ⟨_,_,_,_,_,_,⟨2,by omega,by go_num,Lib.hid (kOk_succ1 HKO.out HE.out),Lib.hid ⟨_,HX.out⟩⟩,rfl,rfl,rfl,rfl,rfl,rfl⟩
          |exact ⟨_,_,_,_,_,_,_,_,_,_,_,_,_,_,_,_,_,_,_,_,_,_,_,_,_,_,_,_,_,_,_,_,_,_,_,_,⟨2,by omega,by go_num,Lib.hid (kOk_succ1 HKO.out HE.out),Lib.hid ⟨_,HX.out⟩⟩,rfl⟩
        case measure=>simp[intOf]
    ·
     have hix: ∀(W:World),(Instr.index 64 (.agg #[.int .i64 x.k0, .int .i64 x.k1, .int .i64 x.k2, .int .i64 x.k3]) (.int .i64 (2:Int))).run Tryz.prog W= .ok (.int .i64 x.k2) W:=fun W=>by kernel_rfl
     have HKind:=Lib.hid (rfl:x.k2=x.k2)
     by_cases e0:x.k2=0
     ·have HE:=Lib.hid (kind_none (F:=F) (M:=M) a2 e0)
      have HX:Hid (KernP F wr o G M n∧Touch (fun t=>t≠ .other) w wr own o∧BoxAt wr o bx #[.int .u64 a0, .int .u64 a1, .int .u64 a2, .int .u64 a3] 69):=Lib.hid ⟨H3.out,HT3.out,HB3.out⟩
      have f0:(x.k2==0)=true:=beq_iff_eq.2 e0
      clear e0
      go_wp2_with fail
      go_roundw
      case rel=>
       first
        |exact ⟨3,by omega,by go_num,Lib.hid (kOk_succ2 HKO.out HE.out),Lib.hid ⟨_,HX.out⟩⟩
        |exact ⟨_,_,_,_,_,_,⟨3,by omega,by go_num,Lib.hid (kOk_succ2 HKO.out HE.out),Lib.hid ⟨_,HX.out⟩⟩,rfl,rfl,rfl,rfl,rfl,rfl⟩
        |exact ⟨_,_,_,_,_,_,_,_,_,_,_,_,_,_,_,_,_,_,_,_,_,_,_,_,_,_,_,_,_,_,_,_,_,_,_,_,⟨3,by omega,by go_num,Lib.hid (kOk_succ2 HKO.out HE.out),Lib.hid ⟨_,HX.out⟩⟩,rfl⟩
      case measure=>simp[intOf]
     ·have f0:(x.k2==0)=false:=beq_eq_false_iff_ne.2 e0
      by_cases e7:x.k2=7
      ·have f1:(x.k2==7)=true:=beq_iff_eq.2 e7
       have HE7:=Lib.hid e7
       have HU2:Hid (U64 a2):=Lib.hid HU.out.2.2.1
       clear e0 e7
       have HCl:Hid (Calls Tryz.prog 169 #[.pointer (some ⟨G.K,0,none⟩)] wr.drew fun e W=>e= .returned (.int .i64 F.cells)∧W.cell? ⟨bx,2,none⟩=some (.int .u64 a2)∧ ∃o,KernP F W o G M n∧Touch (fun t=>t≠ .other) w W own o∧BoxAt W o bx #[.int .u64 a0, .int .u64 a1, .int .u64 a2, .int .u64 a3] 69):=Lib.hid (by
        refine (HFc.out _ _ H3.out.drew).mono ?_
        rintro e W ⟨rfl,hb⟩
        have tb:=touch_below (ts:=fun t=>t≠ .other) (t:= .other) (own:=o) hb
        have E:=BoxAt.move (w:=wr.drew) HB3.out tb
        exact ⟨rfl,E.cells.2 2,_,H3.out.drew.below hb,(HT3.out.trans (touch_drew wr o)).trans tb,E⟩)
       have c2:wr.cell? ⟨bx,2,none⟩=some (.int .u64 a2):=HB3.out.cells.2 2
       have HBase:Hid (0≤F.cells∧F.cells≤256):=Lib.hid (by have:=H3.out.fok.wide;unfold Fixed.cells;omega)
       have hcw:IntKind.u64.wrap F.cells=F.cells:=by have:=HBase.out;rw[IntKind.wrap_u64];omega
       generalize hnc:F.cells=nc at*
       have HNc:=Lib.hid hnc
       clear hnc
       go_wp2_with fail
       go_region_held3 (fun W=>W.cell? ⟨bx,2,none⟩=some (.int .u64 a2)) (first|exact c2|exact z0|go_keep) (first|(go_at_call 169;refine HCl.out.mono ?_;rintro e w3 ⟨rfl,z0,hx⟩))
       obtain ⟨o4,hx⟩:=hx
       have HX:=Lib.hid hx
       clear hx z0
       by_cases hge:nc≤a2
       ·have fge:decide (nc≤a2)=true:=decide_eq_true hge
        have HBad:Hid (kindOk F M x.k2 a2=false):=Lib.hid (by unfold kindOk;rw[HE7.out,HNc.out];simp;omega)
        go_wp2_with fail
        go_ret
        obtain ⟨k1,k2⟩:=HX.out
        exact ⟨HRes.out.bad (by rw[HBad.out];simp),_,k1,k2.1⟩
       ·have fge:decide (nc≤a2)=false:=decide_eq_false hge
        have hge2:a2<nc:=by omega
        have HE:Hid (kindOk F M x.k2 a2=true):=Lib.hid (by unfold kindOk;rw[HE7.out,HNc.out];simp;omega)
        go_wp2_with fail
        go_roundw
        case rel=>
         first
          |exact ⟨3,by omega,by go_num,Lib.hid (kOk_succ2 HKO.out HE.out),Lib.hid ⟨_,HX.out⟩⟩
          |exact ⟨_,_,_,_,_,_,⟨3,by omega,by go_num,Lib.hid (kOk_succ2 HKO.out HE.out),Lib.hid ⟨_,HX.out⟩⟩,rfl,rfl,rfl,rfl,rfl,rfl⟩
          |exact ⟨_,_,_,_,_,_,_,_,_,_,_,_,_,_,_,_,_,_,_,_,_,_,_,_,_,_,_,_,_,_,_,_,_,_,_,_,⟨3,by omega,by go_num,Lib.hid (kOk_succ2 HKO.out HE.out),Lib.hid ⟨_,HX.out⟩⟩,rfl⟩
        case measure=>simp[intOf]
      ·have f1:(x.k2==7)=false:=beq_eq_false_iff_ne.2 e7
       have HE0:=Lib.hid e0
       have HE7:=Lib.hid e7
       clear e0 e7
       have km:wr.cell? ⟨G.K,1013,none⟩=some (.pointer (some ⟨G.O,0,none⟩)):=(H3.out.kcells).2.2.2.2.2.2.1
       have c2:wr.cell? ⟨bx,2,none⟩=some (.int .u64 a2):=HB3.out.cells.2 2
       have HFd:Hid (Calls Tryz.prog 256 #[.pointer (some ⟨G.O,0,none⟩), .int .u64 a2, .int .i64 x.k2] wr.drew fun e W=>FindEnd (findO M.objs a2 x.k2) e∧(W.cell? ⟨G.K,1013,none⟩=some (.pointer (some ⟨G.O,0,none⟩))∧W.cell? ⟨bx,2,none⟩=some (.int .u64 a2))∧ ∃o,KernP F W o G M n∧Touch (fun t=>t≠ .other) w W own o∧BoxAt W o bx #[.int .u64 a0, .int .u64 a1, .int .u64 a2, .int .u64 a3] 69):=Lib.hid (by
        refine (kfind H3.out.drew a2 x.k2 HU.out.2.2.1).mono fun e W hq=>?_
        obtain ⟨q1,hb⟩:=FindOut.parts hq
        have tb:=touch_below (ts:=fun t=>t≠ .other) (t:= .other) (own:=o) hb
        have E:=BoxAt.move (w:=wr.drew) HB3.out tb
        have h5:=H3.out.drew.below hb
        exact ⟨q1,⟨(h5.kcells).2.2.2.2.2.2.1,E.cells.2 2⟩,_,h5,(HT3.out.trans (touch_drew wr o)).trans tb,E⟩)
       cases hfo:findO M.objs a2 x.k2 with
       |none=>
        rw[hfo] at HFd
        have HBad:Hid (kindOk F M x.k2 a2=false):=Lib.hid (by unfold kindOk;rw[if_neg HE0.out,if_neg HE7.out,hfo];rfl)
        clear hfo
        go_wp2_with fail
        go_region_held3 (fun W=>W.cell? ⟨G.K,1013,none⟩=some (.pointer (some ⟨G.O,0,none⟩))∧W.cell? ⟨bx,2,none⟩=some (.int .u64 a2)) (first|exact ⟨km,c2⟩ |exact ⟨z0,z1⟩ |go_keep) (first|(go_at_call 256;refine HFd.out.mono ?_;rintro e w3 ⟨⟨te,xe,rfl⟩,⟨z0,z1⟩,hx⟩))
        obtain ⟨o4,hx⟩:=hx
        have HX:=Lib.hid hx
        clear hx z0 z1
        go_wp2_with fail
        go_ret
        obtain ⟨k1,k2⟩:=HX.out
        exact ⟨HRes.out.bad (by rw[HBad.out];simp),_,k1,k2.1⟩
       |some v=>
        rw[hfo] at HFd
        have HE:Hid (kindOk F M x.k2 a2=true):=Lib.hid (by unfold kindOk;rw[if_neg HE0.out,if_neg HE7.out,hfo];rfl)
        clear hfo
        go_wp2_with fail
        go_region_held3 (fun W=>W.cell? ⟨G.K,1013,none⟩=some (.pointer (some ⟨G.O,0,none⟩))∧W.cell? ⟨bx,2,none⟩=some (.int .u64 a2)) (first|exact ⟨km,c2⟩ |exact ⟨z0,z1⟩ |go_keep) (first|(go_at_call 256;refine HFd.out.mono ?_;rintro e w3 ⟨rfl,⟨z0,z1⟩,hx⟩))
        obtain ⟨o4,hx⟩:=hx
        have HX:=Lib.hid hx
        clear hx z0 z1
        go_wp2_with fail
        go_roundw
        case rel=>
         first
          |exact ⟨3,by omega,by go_num,Lib.hid (kOk_succ2 HKO.out HE.out),Lib.hid ⟨_,HX.out⟩⟩
          |exact ⟨_,_,_,_,_,_,⟨3,by omega,by go_num,Lib.hid (kOk_succ2 HKO.out HE.out),Lib.hid ⟨_,HX.out⟩⟩,rfl,rfl,rfl,rfl,rfl,rfl⟩
          |exact ⟨_,_,_,_,_,_,_,_,_,_,_,_,_,_,_,_,_,_,_,_,_,_,_,_,_,_,_,_,_,_,_,_,_,_,_,_,⟨3,by omega,by go_num,Lib.hid (kOk_succ2 HKO.out HE.out),Lib.hid ⟨_,HX.out⟩⟩,rfl⟩
        case measure=>simp[intOf]
    ·
     have hix: ∀(W:World),(Instr.index 64 (.agg #[.int .i64 x.k0, .int .i64 x.k1, .int .i64 x.k2, .int .i64 x.k3]) (.int .i64 (3:Int))).run Tryz.prog W= .ok (.int .i64 x.k3) W:=fun W=>by kernel_rfl
     have HKind:=Lib.hid (rfl:x.k3=x.k3)
     by_cases e0:x.k3=0
     ·have HE:=Lib.hid (kind_none (F:=F) (M:=M) a3 e0)
      have HX:Hid (KernP F wr o G M n∧Touch (fun t=>t≠ .other) w wr own o∧BoxAt wr o bx #[.int .u64 a0, .int .u64 a1, .int .u64 a2, .int .u64 a3] 69):=Lib.hid ⟨H3.out,HT3.out,HB3.out⟩
      have f0:(x.k3==0)=true:=beq_iff_eq.2 e0
      clear e0
      go_wp2_with fail
      go_roundw
      case rel=>
       first
        |exact ⟨4,by omega,by go_num,Lib.hid (kOk_succ3 HKO.out HE.out),Lib.hid ⟨_,HX.out⟩⟩
        |exact ⟨_,_,_,_,_,_,⟨4,by omega,by go_num,Lib.hid (kOk_succ3 HKO.out HE.out),Lib.hid ⟨_,HX.out⟩⟩,rfl,rfl,rfl,rfl,rfl,rfl⟩
        |exact ⟨_,_,_,_,_,_,_,_,_,_,_,_,_,_,_,_,_,_,_,_,_,_,_,_,_,_,_,_,_,_,_,_,_,_,_,_,⟨4,by omega,by go_num,Lib.hid (kOk_succ3 HKO.out HE.out),Lib.hid ⟨_,HX.out⟩⟩,rfl⟩
      case measure=>simp[intOf]
     ·have f0:(x.k3==0)=false:=beq_eq_false_iff_ne.2 e0
      by_cases e7:x.k3=7
      ·have f1:(x.k3==7)=true:=beq_iff_eq.2 e7
       have HE7:=Lib.hid e7
       have HU3:Hid (U64 a3):=Lib.hid HU.out.2.2.2
       clear e0 e7
       have HCl:Hid (Calls Tryz.prog 169 #[.pointer (some ⟨G.K,0,none⟩)] wr.drew fun e W=>e= .returned (.int .i64 F.cells)∧W.cell? ⟨bx,3,none⟩=some (.int .u64 a3)∧ ∃o,KernP F W o G M n∧Touch (fun t=>t≠ .other) w W own o∧BoxAt W o bx #[.int .u64 a0, .int .u64 a1, .int .u64 a2, .int .u64 a3] 69):=Lib.hid (by
        refine (HFc.out _ _ H3.out.drew).mono ?_
        rintro e W ⟨rfl,hb⟩
        have tb:=touch_below (ts:=fun t=>t≠ .other) (t:= .other) (own:=o) hb
        have E:=BoxAt.move (w:=wr.drew) HB3.out tb
        exact ⟨rfl,E.cells.2 3,_,H3.out.drew.below hb,(HT3.out.trans (touch_drew wr o)).trans tb,E⟩)
       have c3:wr.cell? ⟨bx,3,none⟩=some (.int .u64 a3):=HB3.out.cells.2 3
       have HBase:Hid (0≤F.cells∧F.cells≤256):=Lib.hid (by have:=H3.out.fok.wide;unfold Fixed.cells;omega)
       have hcw:IntKind.u64.wrap F.cells=F.cells:=by have:=HBase.out;rw[IntKind.wrap_u64];omega
       generalize hnc:F.cells=nc at*
       have HNc:=Lib.hid hnc
       clear hnc
       go_wp2_with fail
       go_region_held3 (fun W=>W.cell? ⟨bx,3,none⟩=some (.int .u64 a3)) (first|exact c3|exact z0|go_keep) (first|(go_at_call 169;refine HCl.out.mono ?_;rintro e w3 ⟨rfl,z0,hx⟩))
       obtain ⟨o4,hx⟩:=hx
       have HX:=Lib.hid hx
       clear hx z0
       by_cases hge:nc≤a3
       ·have fge:decide (nc≤a3)=true:=decide_eq_true hge
        have HBad:Hid (kindOk F M x.k3 a3=false):=Lib.hid (by unfold kindOk;rw[HE7.out,HNc.out];simp;omega)
        go_wp2_with fail
        go_ret
        obtain ⟨k1,k2⟩:=HX.out
        exact ⟨HRes.out.bad (by rw[HBad.out];simp),_,k1,k2.1⟩
       ·have fge:decide (nc≤a3)=false:=decide_eq_false hge
        have hge2:a3<nc:=by omega
        have HE:Hid (kindOk F M x.k3 a3=true):=Lib.hid (by unfold kindOk;rw[HE7.out,HNc.out];simp;omega)
        go_wp2_with fail
        go_roundw
        case rel=>
         first
          |exact ⟨4,by omega,by go_num,Lib.hid (kOk_succ3 HKO.out HE.out),Lib.hid ⟨_,HX.out⟩⟩
          |exact ⟨_,_,_,_,_,_,⟨4,by omega,by go_num,Lib.hid (kOk_succ3 HKO.out HE.out),Lib.hid ⟨_,HX.out⟩⟩,rfl,rfl,rfl,rfl,rfl,rfl⟩
          |exact ⟨_,_,_,_,_,_,_,_,_,_,_,_,_,_,_,_,_,_,_,_,_,_,_,_,_,_,_,_,_,_,_,_,_,_,_,_,⟨4,by omega,by go_num,Lib.hid (kOk_succ3 HKO.out HE.out),Lib.hid ⟨_,HX.out⟩⟩,rfl⟩
        case measure=>simp[intOf]
      ·have f1:(x.k3==7)=false:=beq_eq_false_iff_ne.2 e7
       have HE0:=Lib.hid e0
       have HE7:=Lib.hid e7
       clear e0 e7
       have km:wr.cell? ⟨G.K,1013,none⟩=some (.pointer (some ⟨G.O,0,none⟩)):=(H3.out.kcells).2.2.2.2.2.2.1
       have c3:wr.cell? ⟨bx,3,none⟩=some (.int .u64 a3):=HB3.out.cells.2 3
       have HFd:Hid (Calls Tryz.prog 256 #[.pointer (some ⟨G.O,0,none⟩), .int .u64 a3, .int .i64 x.k3] wr.drew fun e W=>FindEnd (findO M.objs a3 x.k3) e∧(W.cell? ⟨G.K,1013,none⟩=some (.pointer (some ⟨G.O,0,none⟩))∧W.cell? ⟨bx,3,none⟩=some (.int .u64 a3))∧ ∃o,KernP F W o G M n∧Touch (fun t=>t≠ .other) w W own o∧BoxAt W o bx #[.int .u64 a0, .int .u64 a1, .int .u64 a2, .int .u64 a3] 69):=Lib.hid (by
        refine (kfind H3.out.drew a3 x.k3 HU.out.2.2.2).mono fun e W hq=>?_
        obtain ⟨q1,hb⟩:=FindOut.parts hq
        have tb:=touch_below (ts:=fun t=>t≠ .other) (t:= .other) (own:=o) hb
        have E:=BoxAt.move (w:=wr.drew) HB3.out tb
        have h5:=H3.out.drew.below hb
        exact ⟨q1,⟨(h5.kcells).2.2.2.2.2.2.1,E.cells.2 3⟩,_,h5,(HT3.out.trans (touch_drew wr o)).trans tb,E⟩)
       cases hfo:findO M.objs a3 x.k3 with
       |none=>
        rw[hfo] at HFd
        have HBad:Hid (kindOk F M x.k3 a3=false):=Lib.hid (by unfold kindOk;rw[if_neg HE0.out,if_neg HE7.out,hfo];rfl)
        clear hfo
        go_wp2_with fail
        go_region_held3 (fun W=>W.cell? ⟨G.K,1013,none⟩=some (.pointer (some ⟨G.O,0,none⟩))∧W.cell? ⟨bx,3,none⟩=some (.int .u64 a3)) (first|exact ⟨km,c3⟩ |exact ⟨z0,z1⟩ |go_keep) (first|(go_at_call 256;refine HFd.out.mono ?_;rintro e w3 ⟨⟨te,xe,rfl⟩,⟨z0,z1⟩,hx⟩))
        obtain ⟨o4,hx⟩:=hx
        have HX:=Lib.hid hx
        clear hx z0 z1
        go_wp2_with fail
        go_ret
        obtain ⟨k1,k2⟩:=HX.out
        exact ⟨HRes.out.bad (by rw[HBad.out];simp),_,k1,k2.1⟩
       |some v=>
        rw[hfo] at HFd
        have HE:Hid (kindOk F M x.k3 a3=true):=Lib.hid (by unfold kindOk;rw[if_neg HE0.out,if_neg HE7.out,hfo];rfl)
        clear hfo
        go_wp2_with fail
        go_region_held3 (fun W=>W.cell? ⟨G.K,1013,none⟩=some (.pointer (some ⟨G.O,0,none⟩))∧W.cell? ⟨bx,3,none⟩=some (.int .u64 a3)) (first|exact ⟨km,c3⟩ |exact ⟨z0,z1⟩ |go_keep) (first|(go_at_call 256;refine HFd.out.mono ?_;rintro e w3 ⟨rfl,⟨z0,z1⟩,hx⟩))
        obtain ⟨o4,hx⟩:=hx
        have HX:=Lib.hid hx
        clear hx z0 z1
        go_wp2_with fail
        go_roundw
        case rel=>
         first
          |exact ⟨4,by omega,by go_num,Lib.hid (kOk_succ3 HKO.out HE.out),Lib.hid ⟨_,HX.out⟩⟩
          |exact ⟨_,_,_,_,_,_,⟨4,by omega,by go_num,Lib.hid (kOk_succ3 HKO.out HE.out),Lib.hid ⟨_,HX.out⟩⟩,rfl,rfl,rfl,rfl,rfl,rfl⟩
          |exact ⟨_,_,_,_,_,_,_,_,_,_,_,_,_,_,_,_,_,_,_,_,_,_,_,_,_,_,_,_,_,_,_,_,_,_,_,_,⟨4,by omega,by go_num,Lib.hid (kOk_succ3 HKO.out HE.out),Lib.hid ⟨_,HX.out⟩⟩,rfl⟩
        case measure=>simp[intOf]
    ·go_wp2_with fail
     go_ret
     exact ⟨HRes.out.good HKO.out,o,H3.out,HT3.out⟩
   ·have:=HV.out
    omega
set_option maxRecDepth 100000 in
set_option maxHeartbeats 4000000 in
theorem refused_b (h:KernP F w own G M n) {id:Int} {r:Run} (hr:runOf M.runs id=some r) (num:Int) (hnum:0≤num∧num<1000) (a0 a1 a2 a3:Int) (u0:U64 a0) (u1:U64 a1) (u2:U64 a2) (u3:U64 a3) (hv:7≤r.l.length∧num=2):
  Calls Tryz.prog 255 #[.pointer (some ⟨G.K,0,none⟩), .pointer (some ⟨G.tb id,0,none⟩), .int .i64 num, .agg #[.int .u64 a0, .int .u64 a1, .int .u64 a2, .int .u64 a3]] w fun e w'=>e= .returned (.int .u64 (refused F M r num a0 a1 a2 a3))∧KO F w own G M n w':=by
 obtain ⟨k,hk⟩:=Int.eq_ofNat_of_zero_le hnum.1
 subst hk
 have hk2:k<1000:=by omega
 obtain ⟨w1,hw1⟩: ∃w1,w1=(w.alloc (.cells #[.int .u64 a0, .int .u64 a1, .int .u64 a2, .int .u64 a3] 69)):=⟨_,rfl⟩
 have l3:Below w.heap.size w w1:=by rw[hw1];exact below_al (Below.refl _ _) _
 have l1:w1.heap[w.heap.size]?=some (.cells #[.int .u64 a0, .int .u64 a1, .int .u64 a2, .int .u64 a3] 69 (0,0)):=by rw[hw1];exact heap_alloc_new w _
 have h1:=h.below l3
 have t1:Touch (fun t=>t≠ .other) w w1 own (ext own w.heap.size .other):=touch_below l3
 have B4:BoxAt w1 (ext own w.heap.size .other) w.heap.size _ 69:=⟨l1,ext_tag (Or.inr (Nat.le_refl _))⟩
 generalize ext own w.heap.size .other=own1 at h1 t1 B4
 have row:w1.cell? ⟨G.K,7+k,none⟩=some (.int .i64 (rowIx F.calls k:Nat)):=h1.kcell fun _ _ hc=>hc.rows k hk2
 have H1:=Lib.hid h1
 have HT1:=Lib.hid t1
 have HB4:=Lib.hid B4
 have HR:=Lib.hid hr
 have HV:=Lib.hid hv
 clear hv
 cases hrow:rowOf F.calls k with
 |none=>
  rw[rowIx_none hrow] at row
  have er:refused F M r k a0 a1 a2 a3=38:=by unfold refused;rw[hrow]
  rw[er]
  clear h h1 t1 B4 l1 l3 hrow er hr
  go_enter Tryz.func255,Tryz.ntmps255
  go_upto_region 1 with fail
  rw[←hw1]
  clear hw1
  go_wp2_with fail
  go_ret
  exact ⟨rfl,own1,H1.out,HT1.out⟩
 |some x=>
  obtain ⟨p,hpx,hp⟩:=rowIx_some hrow
  rw[hpx] at row
  obtain ⟨gc,cc,hcv,hrc,hgc,hgl⟩:=h1.fix.calls.rowAt hp
  have kc:w1.cell? ⟨G.K,2,none⟩=some G.cv:=h1.kcell fun _ _ hc=>hc.calls
  rw[hcv] at kc
  have hpl:=(List.getElem?_eq_some_iff.1 hp).1
  have hfew:=h1.fok.few
  have r2:w1.cell? ⟨gc,p*6+2,none⟩=some (.int .i64 x.k0):=hrc 2 (by decide)
  have r3:w1.cell? ⟨gc,p*6+2+1,none⟩=some (.int .i64 x.k1):=hrc 3 (by decide)
  have r4:w1.cell? ⟨gc,p*6+2+2,none⟩=some (.int .i64 x.k2):=hrc 4 (by decide)
  have r5:w1.cell? ⟨gc,p*6+2+3,none⟩=some (.int .i64 x.k3):=hrc 5 (by decide)
  obtain ⟨c0,⟨lv,cl,hrl⟩,-,-,cfz⟩:=h1.thr_cells hr
  obtain ⟨lA,lc,hlv⟩:=Asm.own_shape hrl.1
  have hlen:r.l.length≤100:=(h1.runs.each r (runOf_mem hr).1).few
  subst hlv
  have hKl:=h1.klt
  have hRef: ∀_: ¬(7≤r.l.length∧(k:Int)≠2),refused F M r k a0 a1 a2 a3=_:=fun e=>refused_of hrow e
  have hE11:7≤r.l.length∧(k:Int)≠2→refused F M r k a0 a1 a2 a3=11:=fun e=>by unfold refused;rw[hrow];simp only;rw[if_pos e]
  have hLI:(0:Int)≤(r.l.length:Int)∧(r.l.length:Int)≤100:=by omega
  generalize hL:r.l.length=L at*
  have hpI:(0:Int)≤(p:Int)∧(p:Int)<(F.calls.length:Int):=by omega
  have hpw:IntKind.i64.wrap ((p:Int)+1 - 1)=(p:Int):=by rw[IntKind.wrap_i64];omega
  have hpw2:IntKind.i64.wrap (p:Int)=(p:Int):=by rw[IntKind.wrap_i64];omega
  have hp1:((p:Int)+1==0)=false:=beq_eq_false_iff_ne.2 (by omega)
  have hcast:((p+1:Nat):Int)=(p:Int)+1:=by omega
  rw[hcast] at row
  generalize F.calls.length=NC at*
  clear h h1 t1 B4 l1 l3 hrow hr hpx hp hcv hrc hgc hgl hpl hfew hrl cfz hcast
  by_cases h7:7≤L∧(k:Int)≠2
  ·rw[hE11 h7]
   have f7:decide ((7:Int)≤(L:Int))=true:=decide_eq_true (by omega)
   have f2:((k:Int)==2)=false:=beq_eq_false_iff_ne.2 h7.2
   clear hE11 hRef h7
   go_enter Tryz.func255,Tryz.ntmps255
   go_upto_region 1 with fail
   rw[←hw1]
   clear hw1
   go_wp2_with fail
   go_ret
   exact ⟨rfl,own1,H1.out,HT1.out⟩
  ·have HRes:Hid (ResOf F M x a0 a1 a2 a3 (refused F M r k a0 a1 a2 a3)):=Lib.hid (hRef h7)
   generalize refused F M r k a0 a1 a2 a3=res at*
   have h7':(¬7≤L)∨(7≤L∧(k:Int)=2):=by omega
   have HFc:=Lib.hid (fun (W:World) (o:Own) (q:KernP F W o G M n)=>cells_any q)
   have HU:Hid (U64 a0∧U64 a1∧U64 a2∧U64 a3):=Lib.hid ⟨u0,u1,u2,u3⟩
   clear hE11 hRef h7 u0 u1 u2 u3
   rcases h7' with q|⟨q,q2⟩
   ·have:=HV.out
    omega
   ·have f7:decide ((7:Int)≤(L:Int))=true:=decide_eq_true (by omega)
    have f2:((k:Int)==2)=true:=beq_iff_eq.2 q2
    have g2:((k:Int) !=2)=false:=by rw[bne,f2];rfl
    clear q q2
    go_enter Tryz.func255,Tryz.ntmps255
    go_upto_region 1 with fail
    rw[←hw1]
    clear hw1
    go_wp2_with fail
    go_quiet (fail)
    go_wp2_with fail
    obtain ⟨w2,hw2⟩: ∃w2,w2=w1.drewN nq:=⟨_,rfl⟩
    have H2:Hid (KernP F w2 own1 G M n):=Lib.hid (by rw[hw2];exact H1.out.drewN nq)
    have HT2:Hid (Touch (fun t=>t≠ .other) w w2 own own1):=Lib.hid (by rw[hw2];exact HT1.out.trans (touch_drewN w1 own1 nq))
    have HB2:Hid (BoxAt w2 own1 w.heap.size #[.int .u64 a0, .int .u64 a1, .int .u64 a2, .int .u64 a3] 69):=Lib.hid (by rw[hw2];exact HB4.out.drawn nq)
    try rw[←hw2]
    clear hw2 row kc r2 r3 r4 r5 cl c0 H1 HT1 HB4 hKl hLI f7 f2 g2 hpI hpw hpw2 hp1 hnum hL hlen
    generalize w.heap.size=bx at*
    go_loopw [49] (fun iv wr=> ∃i:Nat,i≤4∧iv= .int .i64 (i:Int)∧Hid (kOk F M x a0 a1 a2 a3 i)∧Hid (∃o,KernP F wr o G M n∧Touch (fun t=>t≠ .other) w wr own o∧BoxAt wr o bx #[.int .u64 a0, .int .u64 a1, .int .u64 a2, .int .u64 a3] 69)) (fun iv _=>4 - (intOf iv).toNat)
    case atStart=>exact ⟨0,by omega,rfl,Lib.hid ⟨fun e=>absurd e (by omega),fun e=>absurd e (by omega),fun e=>absurd e (by omega),fun e=>absurd e (by omega)⟩,Lib.hid ⟨own1,H2.out,HT2.out,HB2.out⟩⟩
    obtain ⟨i,hi,rfl,HKO,HS⟩:=hrel
    obtain ⟨o,h3,t3,b3⟩:=HS.out
    have H3:=Lib.hid h3
    have HT3:=Lib.hid t3
    have HB3:=Lib.hid b3
    clear HS h3 t3 b3 H2 HT2 HB2
    rcases (by omega:i=0∨i=1∨i=2∨i=3∨i=4) with rfl|rfl|rfl|rfl|rfl
    ·
     have hix: ∀(W:World),(Instr.index 64 (.agg #[.int .i64 x.k0, .int .i64 x.k1, .int .i64 x.k2, .int .i64 x.k3]) (.int .i64 (0:Int))).run Tryz.prog W= .ok (.int .i64 x.k0) W:=fun W=>by kernel_rfl
     have HKind:=Lib.hid (rfl:x.k0=x.k0)
     by_cases e0:x.k0=0
     ·have HE:=Lib.hid (kind_none (F:=F) (M:=M) a0 e0)
      have HX:Hid (KernP F wr o G M n∧Touch (fun t=>t≠ .other) w wr own o∧BoxAt wr o bx #[.int .u64 a0, .int .u64 a1, .int .u64 a2, .int .u64 a3] 69):=Lib.hid ⟨H3.out,HT3.out,HB3.out⟩
      have f0:(x.k0==0)=true:=beq_iff_eq.2 e0
      clear e0
      go_wp2_with fail
      go_roundw
      case rel=>
       first
        |exact ⟨1,by omega,by go_num,Lib.hid (kOk_succ0 HKO.out HE.out),Lib.hid ⟨_,HX.out⟩⟩
        |exact ⟨_,_,_,_,_,_,⟨1,by omega,by go_num,Lib.hid (kOk_succ0 HKO.out HE.out),Lib.hid ⟨_,HX.out⟩⟩,rfl,rfl,rfl,rfl,rfl,rfl⟩
        |exact ⟨_,_,_,_,_,_,_,_,_,_,_,_,_,_,_,_,_,_,_,_,_,_,_,_,_,_,_,_,_,_,_,_,_,_,_,_,⟨1,by omega,by go_num,Lib.hid (kOk_succ0 HKO.out HE.out),Lib.hid ⟨_,HX.out⟩⟩,rfl⟩
      case measure=>simp[intOf]
     ·have f0:(x.k0==0)=false:=beq_eq_false_iff_ne.2 e0
      by_cases e7:x.k0=7
      ·have f1:(x.k0==7)=true:=beq_iff_eq.2 e7
       have HE7:=Lib.hid e7
       have HU0:Hid (U64 a0):=Lib.hid HU.out.1
       clear e0 e7
       have HCl:Hid (Calls Tryz.prog 169 #[.pointer (some ⟨G.K,0,none⟩)] wr.drew fun e W=>e= .returned (.int .i64 F.cells)∧W.cell? ⟨bx,0,none⟩=some (.int .u64 a0)∧ ∃o,KernP F W o G M n∧Touch (fun t=>t≠ .other) w W own o∧BoxAt W o bx #[.int .u64 a0, .int .u64 a1, .int .u64 a2, .int .u64 a3] 69):=Lib.hid (by
        refine (HFc.out _ _ H3.out.drew).mono ?_
        rintro e W ⟨rfl,hb⟩
        have tb:=touch_below (ts:=fun t=>t≠ .other) (t:= .other) (own:=o) hb
        have E:=BoxAt.move (w:=wr.drew) HB3.out tb
        exact ⟨rfl,E.cells.2 0,_,H3.out.drew.below hb,(HT3.out.trans (touch_drew wr o)).trans tb,E⟩)
       have c0:wr.cell? ⟨bx,0,none⟩=some (.int .u64 a0):=HB3.out.cells.2 0
       have HBase:Hid (0≤F.cells∧F.cells≤256):=Lib.hid (by have:=H3.out.fok.wide;unfold Fixed.cells;omega)
       have hcw:IntKind.u64.wrap F.cells=F.cells:=by have:=HBase.out;rw[IntKind.wrap_u64];omega
       generalize hnc:F.cells=nc at*
       have HNc:=Lib.hid hnc
       clear hnc
       go_wp2_with fail
       go_region_held3 (fun W=>W.cell? ⟨bx,0,none⟩=some (.int .u64 a0)) (first|exact c0|exact z0|go_keep) (first|(go_at_call 169;refine HCl.out.mono ?_;rintro e w3 ⟨rfl,z0,hx⟩))
       obtain ⟨o4,hx⟩:=hx
       have HX:=Lib.hid hx
       clear hx z0
       by_cases hge:nc≤a0
       ·have fge:decide (nc≤a0)=true:=decide_eq_true hge
        have HBad:Hid (kindOk F M x.k0 a0=false):=Lib.hid (by unfold kindOk;rw[HE7.out,HNc.out];simp;omega)
        go_wp2_with fail
        go_ret
        obtain ⟨k1,k2⟩:=HX.out
        exact ⟨HRes.out.bad (by rw[HBad.out];simp),_,k1,k2.1⟩
       ·have fge:decide (nc≤a0)=false:=decide_eq_false hge
        have hge2:a0<nc:=by omega
        have HE:Hid (kindOk F M x.k0 a0=true):=Lib.hid (by unfold kindOk;rw[HE7.out,HNc.out];simp;omega)
        go_wp2_with fail
        go_roundw
        case rel=>
         first
          |exact ⟨1,by omega,by go_num,Lib.hid (kOk_succ0 HKO.out HE.out),Lib.hid ⟨_,HX.out⟩⟩
          |exact ⟨_,_,_,_,_,_,⟨1,by omega,by go_num,Lib.hid (kOk_succ0 HKO.out HE.out),Lib.hid ⟨_,HX.out⟩⟩,rfl,rfl,rfl,rfl,rfl,rfl⟩
          |exact ⟨_,_,_,_,_,_,_,_,_,_,_,_,_,_,_,_,_,_,_,_,_,_,_,_,_,_,_,_,_,_,_,_,_,_,_,_,⟨1,by omega,by go_num,Lib.hid (kOk_succ0 HKO.out HE.out),Lib.hid ⟨_,HX.out⟩⟩,rfl⟩
        case measure=>simp[intOf]
      ·have f1:(x.k0==7)=false:=beq_eq_false_iff_ne.2 e7
       have HE0:=Lib.hid e0
       have HE7:=Lib.hid e7
       clear e0 e7
       have km:wr.cell? ⟨G.K,1013,none⟩=some (.pointer (some ⟨G.O,0,none⟩)):=(H3.out.kcells).2.2.2.2.2.2.1
       have c0:wr.cell? ⟨bx,0,none⟩=some (.int .u64 a0):=HB3.out.cells.2 0
       have HFd:Hid (Calls Tryz.prog 256 #[.pointer (some ⟨G.O,0,none⟩), .int .u64 a0, .int .i64 x.k0] wr.drew fun e W=>FindEnd (findO M.objs a0 x.k0) e∧(W.cell? ⟨G.K,1013,none⟩=some (.pointer (some ⟨G.O,0,none⟩))∧W.cell? ⟨bx,0,none⟩=some (.int .u64 a0))∧ ∃o,KernP F W o G M n∧Touch (fun t=>t≠ .other) w W own o∧BoxAt W o bx #[.int .u64 a0, .int .u64 a1, .int .u64 a2, .int .u64 a3] 69):=Lib.hid (by
        refine (kfind H3.out.drew a0 x.k0 HU.out.1).mono fun e W hq=>?_
        obtain ⟨q1,hb⟩:=FindOut.parts hq
        have tb:=touch_below (ts:=fun t=>t≠ .other) (t:= .other) (own:=o) hb
        have E:=BoxAt.move (w:=wr.drew) HB3.out tb
        have h5:=H3.out.drew.below hb
        exact ⟨q1,⟨(h5.kcells).2.2.2.2.2.2.1,E.cells.2 0⟩,_,h5,(HT3.out.trans (touch_drew wr o)).trans tb,E⟩)
       cases hfo:findO M.objs a0 x.k0 with
       |none=>
        rw[hfo] at HFd
        have HBad:Hid (kindOk F M x.k0 a0=false):=Lib.hid (by unfold kindOk;rw[if_neg HE0.out,if_neg HE7.out,hfo];rfl)
        clear hfo
        go_wp2_with fail
        go_region_held3 (fun W=>W.cell? ⟨G.K,1013,none⟩=some (.pointer (some ⟨G.O,0,none⟩))∧W.cell? ⟨bx,0,none⟩=some (.int .u64 a0)) (first|exact ⟨km,c0⟩ |exact ⟨z0,z1⟩ |go_keep) (first|(go_at_call 256;refine HFd.out.mono ?_;rintro e w3 ⟨⟨te,xe,rfl⟩,⟨z0,z1⟩,hx⟩))
        obtain ⟨o4,hx⟩:=hx
        have HX:=Lib.hid hx
        clear hx z0 z1
        go_wp2_with fail
        go_ret
        obtain ⟨k1,k2⟩:=HX.out
        exact ⟨HRes.out.bad (by rw[HBad.out];simp),_,k1,k2.1⟩
       |some v=>
        rw[hfo] at HFd
        have HE:Hid (kindOk F M x.k0 a0=true):=Lib.hid (by unfold kindOk;rw[if_neg HE0.out,if_neg HE7.out,hfo];rfl)
        clear hfo
        go_wp2_with fail
        go_region_held3 (fun W=>W.cell? ⟨G.K,1013,none⟩=some (.pointer (some ⟨G.O,0,none⟩))∧W.cell? ⟨bx,0,none⟩=some (.int .u64 a0)) (first|exact ⟨km,c0⟩ |exact ⟨z0,z1⟩ |go_keep) (first|(go_at_call 256;refine HFd.out.mono ?_;rintro e w3 ⟨rfl,⟨z0,z1⟩,hx⟩))
        obtain ⟨o4,hx⟩:=hx
        have HX:=Lib.hid hx
        clear hx z0 z1
        go_wp2_with fail
        go_roundw
        case rel=>
         first
          |exact ⟨1,by omega,by go_num,Lib.hid (kOk_succ0 HKO.out HE.out),Lib.hid ⟨_,HX.out⟩⟩
          |exact ⟨_,_,_,_,_,_,⟨1,by omega,by go_num,Lib.hid (kOk_succ0 HKO.out HE.out),Lib.hid ⟨_,HX.out⟩⟩,rfl,rfl,rfl,rfl,rfl,rfl⟩
          |exact ⟨_,_,_,_,_,_,_,_,_,_,_,_,_,_,_,_,_,_,_,_,_,_,_,_,_,_,_,_,_,_,_,_,_,_,_,_,⟨1,by omega,by go_num,Lib.hid (kOk_succ0 HKO.out HE.out),Lib.hid ⟨_,HX.out⟩⟩,rfl⟩
        case measure=>simp[intOf]
    ·
     have hix: ∀(W:World),(Instr.index 64 (.agg #[.int .i64 x.k0, .int .i64 x.k1, .int .i64 x.k2, .int .i64 x.k3]) (.int .i64 (1:Int))).run Tryz.prog W= .ok (.int .i64 x.k1) W:=fun W=>by kernel_rfl
     have HKind:=Lib.hid (rfl:x.k1=x.k1)
     by_cases e0:x.k1=0
     ·have HE:=Lib.hid (kind_none (F:=F) (M:=M) a1 e0)
      have HX:Hid (KernP F wr o G M n∧Touch (fun t=>t≠ .other) w wr own o∧BoxAt wr o bx #[.int .u64 a0, .int .u64 a1, .int .u64 a2, .int .u64 a3] 69):=Lib.hid ⟨H3.out,HT3.out,HB3.out⟩
      have f0:(x.k1==0)=true:=beq_iff_eq.2 e0
      clear e0
      go_wp2_with fail
      go_roundw
      case rel=>
       first
        |exact ⟨2,by omega,by go_num,Lib.hid (kOk_succ1 HKO.out HE.out),Lib.hid ⟨_,HX.out⟩⟩
        |exact ⟨_,_,_,_,_,_,⟨2,by omega,by go_num,Lib.hid (kOk_succ1 HKO.out HE.out),Lib.hid ⟨_,HX.out⟩⟩,rfl,rfl,rfl,rfl,rfl,rfl⟩
        |exact ⟨_,_,_,_,_,_,_,_,_,_,_,_,_,_,_,_,_,_,_,_,_,_,_,_,_,_,_,_,_,_,_,_,_,_,_,_,⟨2,by omega,by go_num,Lib.hid (kOk_succ1 HKO.out HE.out),Lib.hid ⟨_,HX.out⟩⟩,rfl⟩
      case measure=>simp[intOf]
     ·have f0:(x.k1==0)=false:=beq_eq_false_iff_ne.2 e0
      by_cases e7:x.k1=7
      ·have f1:(x.k1==7)=true:=beq_iff_eq.2 e7
       have HE7:=Lib.hid e7
       have HU1:Hid (U64 a1):=Lib.hid HU.out.2.1
       clear e0 e7
       have HCl:Hid (Calls Tryz.prog 169 #[.pointer (some ⟨G.K,0,none⟩)] wr.drew fun e W=>e= .returned (.int .i64 F.cells)∧W.cell? ⟨bx,1,none⟩=some (.int .u64 a1)∧ ∃o,KernP F W o G M n∧Touch (fun t=>t≠ .other) w W own o∧BoxAt W o bx #[.int .u64 a0, .int .u64 a1, .int .u64 a2, .int .u64 a3] 69):=Lib.hid (by
        refine (HFc.out _ _ H3.out.drew).mono ?_
        rintro e W ⟨rfl,hb⟩
        have tb:=touch_below (ts:=fun t=>t≠ .other) (t:= .other) (own:=o) hb
        have E:=BoxAt.move (w:=wr.drew) HB3.out tb
        exact ⟨rfl,E.cells.2 1,_,H3.out.drew.below hb,(HT3.out.trans (touch_drew wr o)).trans tb,E⟩)
       have c1:wr.cell? ⟨bx,1,none⟩=some (.int .u64 a1):=HB3.out.cells.2 1
       have HBase:Hid (0≤F.cells∧F.cells≤256):=Lib.hid (by have:=H3.out.fok.wide;unfold Fixed.cells;omega)
       have hcw:IntKind.u64.wrap F.cells=F.cells:=by have:=HBase.out;rw[IntKind.wrap_u64];omega
       generalize hnc:F.cells=nc at*
       have HNc:=Lib.hid hnc
       clear hnc
       go_wp2_with fail
       go_region_held3 (fun W=>W.cell? ⟨bx,1,none⟩=some (.int .u64 a1)) (first|exact c1|exact z0|go_keep) (first|(go_at_call 169;refine HCl.out.mono ?_;rintro e w3 ⟨rfl,z0,hx⟩))
       obtain ⟨o4,hx⟩:=hx
       have HX:=Lib.hid hx
       clear hx z0
       by_cases hge:nc≤a1
       ·have fge:decide (nc≤a1)=true:=decide_eq_true hge
        have HBad:Hid (kindOk F M x.k1 a1=false):=Lib.hid (by unfold kindOk;rw[HE7.out,HNc.out];simp;omega)
        go_wp2_with fail
        go_ret
        obtain ⟨k1,k2⟩:=HX.out
        exact ⟨HRes.out.bad (by rw[HBad.out];simp),_,k1,k2.1⟩
       ·have fge:decide (nc≤a1)=false:=decide_eq_false hge
        have hge2:a1<nc:=by omega
        have HE:Hid (kindOk F M x.k1 a1=true):=Lib.hid (by unfold kindOk;rw[HE7.out,HNc.out];simp;omega)
        go_wp2_with fail
        go_roundw
        case rel=>
         first
          |exact ⟨2,by omega,by go_num,Lib.hid (kOk_succ1 HKO.out HE.out),Lib.hid ⟨_,HX.out⟩⟩
          |exact ⟨_,_,_,_,_,_,⟨2,by omega,by go_num,Lib.hid (kOk_succ1 HKO.out HE.out),Lib.hid ⟨_,HX.out⟩⟩,rfl,rfl,rfl,rfl,rfl,rfl⟩
          |exact ⟨_,_,_,_,_,_,_,_,_,_,_,_,_,_,_,_,_,_,_,_,_,_,_,_,_,_,_,_,_,_,_,_,_,_,_,_,⟨2,by omega,by go_num,Lib.hid (kOk_succ1 HKO.out HE.out),Lib.hid ⟨_,HX.out⟩⟩,rfl⟩
        case measure=>simp[intOf]
      ·have f1:(x.k1==7)=false:=beq_eq_false_iff_ne.2 e7
       have HE0:=Lib.hid e0
       have HE7:=Lib.hid e7
       clear e0 e7
       have km:wr.cell? ⟨G.K,1013,none⟩=some (.pointer (some ⟨G.O,0,none⟩)):=(H3.out.kcells).2.2.2.2.2.2.1
       have c1:wr.cell? ⟨bx,1,none⟩=some (.int .u64 a1):=HB3.out.cells.2 1
       have HFd:Hid (Calls Tryz.prog 256 #[.pointer (some ⟨G.O,0,none⟩), .int .u64 a1, .int .i64 x.k1] wr.drew fun e W=>FindEnd (findO M.objs a1 x.k1) e∧(W.cell? ⟨G.K,1013,none⟩=some (.pointer (some ⟨G.O,0,none⟩))∧W.cell? ⟨bx,1,none⟩=some (.int .u64 a1))∧ ∃o,KernP F W o G M n∧Touch (fun t=>t≠ .other) w W own o∧BoxAt W o bx #[.int .u64 a0, .int .u64 a1, .int .u64 a2, .int .u64 a3] 69):=Lib.hid (by
        refine (kfind H3.out.drew a1 x.k1 HU.out.2.1).mono fun e W hq=>?_
        obtain ⟨q1,hb⟩:=FindOut.parts hq
        have tb:=touch_below (ts:=fun t=>t≠ .other) (t:= .other) (own:=o) hb
        have E:=BoxAt.move (w:=wr.drew) HB3.out tb
        have h5:=H3.out.drew.below hb
        exact ⟨q1,⟨(h5.kcells).2.2.2.2.2.2.1,E.cells.2 1⟩,_,h5,(HT3.out.trans (touch_drew wr o)).trans tb,E⟩)
       cases hfo:findO M.objs a1 x.k1 with
       |none=>
        rw[hfo] at HFd
        have HBad:Hid (kindOk F M x.k1 a1=false):=Lib.hid (by unfold kindOk;rw[if_neg HE0.out,if_neg HE7.out,hfo];rfl)
        clear hfo
        go_wp2_with fail
        go_region_held3 (fun W=>W.cell? ⟨G.K,1013,none⟩=some (.pointer (some ⟨G.O,0,none⟩))∧W.cell? ⟨bx,1,none⟩=some (.int .u64 a1)) (first|exact ⟨km,c1⟩ |exact ⟨z0,z1⟩ |go_keep) (first|(go_at_call 256;refine HFd.out.mono ?_;rintro e w3 ⟨⟨te,xe,rfl⟩,⟨z0,z1⟩,hx⟩))
        obtain ⟨o4,hx⟩:=hx
        have HX:=Lib.hid hx
        clear hx z0 z1
        go_wp2_with fail
        go_ret
        obtain ⟨k1,k2⟩:=HX.out
        exact ⟨HRes.out.bad (by rw[HBad.out];simp),_,k1,k2.1⟩
       |some v=>
        rw[hfo] at HFd
        have HE:Hid (kindOk F M x.k1 a1=true):=Lib.hid (by unfold kindOk;rw[if_neg HE0.out,if_neg HE7.out,hfo];rfl)
        clear hfo
        go_wp2_with fail
        go_region_held3 (fun W=>W.cell? ⟨G.K,1013,none⟩=some (.pointer (some ⟨G.O,0,none⟩))∧W.cell? ⟨bx,1,none⟩=some (.int .u64 a1)) (first|exact ⟨km,c1⟩ |exact ⟨z0,z1⟩ |go_keep) (first|(go_at_call 256;refine HFd.out.mono ?_;rintro e w3 ⟨rfl,⟨z0,z1⟩,hx⟩))
        obtain ⟨o4,hx⟩:=hx
        have HX:=Lib.hid hx
        clear hx z0 z1
        go_wp2_with fail
        go_roundw
        case rel=>
         first
          |exact ⟨2,by omega,by go_num,Lib.hid (kOk_succ1 HKO.out HE.out),Lib.hid ⟨_,HX.out⟩⟩
          |exact ⟨_,_,_,_,_,_,⟨2,by omega,by go_num,Lib.hid (kOk_succ1 HKO.out HE.out),Lib.hid ⟨_,HX.out⟩⟩,rfl,rfl,rfl,rfl,rfl,rfl⟩
          |exact ⟨_,_,_,_,_,_,_,_,_,_,_,_,_,_,_,_,_,_,_,_,_,_,_,_,_,_,_,_,_,_,_,_,_,_,_,_,⟨2,by omega,by go_num,Lib.hid (kOk_succ1 HKO.out HE.out),Lib.hid ⟨_,HX.out⟩⟩,rfl⟩
        case measure=>simp[intOf]
    ·
     have hix: ∀(W:World),(Instr.index 64 (.agg #[.int .i64 x.k0, .int .i64 x.k1, .int .i64 x.k2, .int .i64 x.k3]) (.int .i64 (2:Int))).run Tryz.prog W= .ok (.int .i64 x.k2) W:=fun W=>by kernel_rfl
     have HKind:=Lib.hid (rfl:x.k2=x.k2)
     by_cases e0:x.k2=0
     ·have HE:=Lib.hid (kind_none (F:=F) (M:=M) a2 e0)
      have HX:Hid (KernP F wr o G M n∧Touch (fun t=>t≠ .other) w wr own o∧BoxAt wr o bx #[.int .u64 a0, .int .u64 a1, .int .u64 a2, .int .u64 a3] 69):=Lib.hid ⟨H3.out,HT3.out,HB3.out⟩
      have f0:(x.k2==0)=true:=beq_iff_eq.2 e0
      clear e0
      go_wp2_with fail
      go_roundw
      case rel=>
       first
        |exact ⟨3,by omega,by go_num,Lib.hid (kOk_succ2 HKO.out HE.out),Lib.hid ⟨_,HX.out⟩⟩
        |exact ⟨_,_,_,_,_,_,⟨3,by omega,by go_num,Lib.hid (kOk_succ2 HKO.out HE.out),Lib.hid ⟨_,HX.out⟩⟩,rfl,rfl,rfl,rfl,rfl,rfl⟩
        |exact ⟨_,_,_,_,_,_,_,_,_,_,_,_,_,_,_,_,_,_,_,_,_,_,_,_,_,_,_,_,_,_,_,_,_,_,_,_,⟨3,by omega,by go_num,Lib.hid (kOk_succ2 HKO.out HE.out),Lib.hid ⟨_,HX.out⟩⟩,rfl⟩
      case measure=>simp[intOf]
     ·have f0:(x.k2==0)=false:=beq_eq_false_iff_ne.2 e0
      by_cases e7:x.k2=7
      ·have f1:(x.k2==7)=true:=beq_iff_eq.2 e7
       have HE7:=Lib.hid e7
       have HU2:Hid (U64 a2):=Lib.hid HU.out.2.2.1
       clear e0 e7
       have HCl:Hid (Calls Tryz.prog 169 #[.pointer (some ⟨G.K,0,none⟩)] wr.drew fun e W=>e= .returned (.int .i64 F.cells)∧W.cell? ⟨bx,2,none⟩=some (.int .u64 a2)∧ ∃o,KernP F W o G M n∧Touch (fun t=>t≠ .other) w W own o∧BoxAt W o bx #[.int .u64 a0, .int .u64 a1, .int .u64 a2, .int .u64 a3] 69):=Lib.hid (by
        refine (HFc.out _ _ H3.out.drew).mono ?_
        rintro e W ⟨rfl,hb⟩
        have tb:=touch_below (ts:=fun t=>t≠ .other) (t:= .other) (own:=o) hb
        have E:=BoxAt.move (w:=wr.drew) HB3.out tb
        exact ⟨rfl,E.cells.2 2,_,H3.out.drew.below hb,(HT3.out.trans (touch_drew wr o)).trans tb,E⟩)
       have c2:wr.cell? ⟨bx,2,none⟩=some (.int .u64 a2):=HB3.out.cells.2 2
       have HBase:Hid (0≤F.cells∧F.cells≤256):=Lib.hid (by have:=H3.out.fok.wide;unfold Fixed.cells;omega)
       have hcw:IntKind.u64.wrap F.cells=F.cells:=by have:=HBase.out;rw[IntKind.wrap_u64];omega
       generalize hnc:F.cells=nc at*
       have HNc:=Lib.hid hnc
       clear hnc
       go_wp2_with fail
       go_region_held3 (fun W=>W.cell? ⟨bx,2,none⟩=some (.int .u64 a2)) (first|exact c2|exact z0|go_keep) (first|(go_at_call 169;refine HCl.out.mono ?_;rintro e w3 ⟨rfl,z0,hx⟩))
       obtain ⟨o4,hx⟩:=hx
       have HX:=Lib.hid hx
       clear hx z0
       by_cases hge:nc≤a2
       ·have fge:decide (nc≤a2)=true:=decide_eq_true hge
        have HBad:Hid (kindOk F M x.k2 a2=false):=Lib.hid (by unfold kindOk;rw[HE7.out,HNc.out];simp;omega)
        go_wp2_with fail
        go_ret
        obtain ⟨k1,k2⟩:=HX.out
        exact ⟨HRes.out.bad (by rw[HBad.out];simp),_,k1,k2.1⟩
       ·have fge:decide (nc≤a2)=false:=decide_eq_false hge
        have hge2:a2<nc:=by omega
        have HE:Hid (kindOk F M x.k2 a2=true):=Lib.hid (by unfold kindOk;rw[HE7.out,HNc.out];simp;omega)
        go_wp2_with fail
        go_roundw
        case rel=>
         first
          |exact ⟨3,by omega,by go_num,Lib.hid (kOk_succ2 HKO.out HE.out),Lib.hid ⟨_,HX.out⟩⟩
          |exact ⟨_,_,_,_,_,_,⟨3,by omega,by go_num,Lib.hid (kOk_succ2 HKO.out HE.out),Lib.hid ⟨_,HX.out⟩⟩,rfl,rfl,rfl,rfl,rfl,rfl⟩
          |exact ⟨_,_,_,_,_,_,_,_,_,_,_,_,_,_,_,_,_,_,_,_,_,_,_,_,_,_,_,_,_,_,_,_,_,_,_,_,⟨3,by omega,by go_num,Lib.hid (kOk_succ2 HKO.out HE.out),Lib.hid ⟨_,HX.out⟩⟩,rfl⟩
        case measure=>simp[intOf]
      ·have f1:(x.k2==7)=false:=beq_eq_false_iff_ne.2 e7
       have HE0:=Lib.hid e0
       have HE7:=Lib.hid e7
       clear e0 e7
       have km:wr.cell? ⟨G.K,1013,none⟩=some (.pointer (some ⟨G.O,0,none⟩)):=(H3.out.kcells).2.2.2.2.2.2.1
       have c2:wr.cell? ⟨bx,2,none⟩=some (.int .u64 a2):=HB3.out.cells.2 2
       have HFd:Hid (Calls Tryz.prog 256 #[.pointer (some ⟨G.O,0,none⟩), .int .u64 a2, .int .i64 x.k2] wr.drew fun e W=>FindEnd (findO M.objs a2 x.k2) e∧(W.cell? ⟨G.K,1013,none⟩=some (.pointer (some ⟨G.O,0,none⟩))∧W.cell? ⟨bx,2,none⟩=some (.int .u64 a2))∧ ∃o,KernP F W o G M n∧Touch (fun t=>t≠ .other) w W own o∧BoxAt W o bx #[.int .u64 a0, .int .u64 a1, .int .u64 a2, .int .u64 a3] 69):=Lib.hid (by
        refine (kfind H3.out.drew a2 x.k2 HU.out.2.2.1).mono fun e W hq=>?_
        obtain ⟨q1,hb⟩:=FindOut.parts hq
        have tb:=touch_below (ts:=fun t=>t≠ .other) (t:= .other) (own:=o) hb
        have E:=BoxAt.move (w:=wr.drew) HB3.out tb
        have h5:=H3.out.drew.below hb
        exact ⟨q1,⟨(h5.kcells).2.2.2.2.2.2.1,E.cells.2 2⟩,_,h5,(HT3.out.trans (touch_drew wr o)).trans tb,E⟩)
       cases hfo:findO M.objs a2 x.k2 with
       |none=>
        rw[hfo] at HFd
        have HBad:Hid (kindOk F M x.k2 a2=false):=Lib.hid (by unfold kindOk;rw[if_neg HE0.out,if_neg HE7.out,hfo];rfl)
        clear hfo
        go_wp2_with fail
        go_region_held3 (fun W=>W.cell? ⟨G.K,1013,none⟩=some (.pointer (some ⟨G.O,0,none⟩))∧W.cell? ⟨bx,2,none⟩=some (.int .u64 a2)) (first|exact ⟨km,c2⟩ |exact ⟨z0,z1⟩ |go_keep) (first|(go_at_call 256;refine HFd.out.mono ?_;rintro e w3 ⟨⟨te,xe,rfl⟩,⟨z0,z1⟩,hx⟩))
        obtain ⟨o4,hx⟩:=hx
        have HX:=Lib.hid hx
        clear hx z0 z1
        go_wp2_with fail
        go_ret
        obtain ⟨k1,k2⟩:=HX.out
        exact ⟨HRes.out.bad (by rw[HBad.out];simp),_,k1,k2.1⟩
       |some v=>
        rw[hfo] at HFd
        have HE:Hid (kindOk F M x.k2 a2=true):=Lib.hid (by unfold kindOk;rw[if_neg HE0.out,if_neg HE7.out,hfo];rfl)
        clear hfo
        go_wp2_with fail
        go_region_held3 (fun W=>W.cell? ⟨G.K,1013,none⟩=some (.pointer (some ⟨G.O,0,none⟩))∧W.cell? ⟨bx,2,none⟩=some (.int .u64 a2)) (first|exact ⟨km,c2⟩ |exact ⟨z0,z1⟩ |go_keep) (first|(go_at_call 256;refine HFd.out.mono ?_;rintro e w3 ⟨rfl,⟨z0,z1⟩,hx⟩))
        obtain ⟨o4,hx⟩:=hx
        have HX:=Lib.hid hx
        clear hx z0 z1
        go_wp2_with fail
        go_roundw
        case rel=>
         first
          |exact ⟨3,by omega,by go_num,Lib.hid (kOk_succ2 HKO.out HE.out),Lib.hid ⟨_,HX.out⟩⟩
          |exact ⟨_,_,_,_,_,_,⟨3,by omega,by go_num,Lib.hid (kOk_succ2 HKO.out HE.out),Lib.hid ⟨_,HX.out⟩⟩,rfl,rfl,rfl,rfl,rfl,rfl⟩
          |exact ⟨_,_,_,_,_,_,_,_,_,_,_,_,_,_,_,_,_,_,_,_,_,_,_,_,_,_,_,_,_,_,_,_,_,_,_,_,⟨3,by omega,by go_num,Lib.hid (kOk_succ2 HKO.out HE.out),Lib.hid ⟨_,HX.out⟩⟩,rfl⟩
        case measure=>simp[intOf]
    ·
     have hix: ∀(W:World),(Instr.index 64 (.agg #[.int .i64 x.k0, .int .i64 x.k1, .int .i64 x.k2, .int .i64 x.k3]) (.int .i64 (3:Int))).run Tryz.prog W= .ok (.int .i64 x.k3) W:=fun W=>by kernel_rfl
     have HKind:=Lib.hid (rfl:x.k3=x.k3)
     by_cases e0:x.k3=0
     ·have HE:=Lib.hid (kind_none (F:=F) (M:=M) a3 e0)
      have HX:Hid (KernP F wr o G M n∧Touch (fun t=>t≠ .other) w wr own o∧BoxAt wr o bx #[.int .u64 a0, .int .u64 a1, .int .u64 a2, .int .u64 a3] 69):=Lib.hid ⟨H3.out,HT3.out,HB3.out⟩
      have f0:(x.k3==0)=true:=beq_iff_eq.2 e0
      clear e0
      go_wp2_with fail
      go_roundw
      case rel=>
       first
        |exact ⟨4,by omega,by go_num,Lib.hid (kOk_succ3 HKO.out HE.out),Lib.hid ⟨_,HX.out⟩⟩
        |exact ⟨_,_,_,_,_,_,⟨4,by omega,by go_num,Lib.hid (kOk_succ3 HKO.out HE.out),Lib.hid ⟨_,HX.out⟩⟩,rfl,rfl,rfl,rfl,rfl,rfl⟩
        |exact ⟨_,_,_,_,_,_,_,_,_,_,_,_,_,_,_,_,_,_,_,_,_,_,_,_,_,_,_,_,_,_,_,_,_,_,_,_,⟨4,by omega,by go_num,Lib.hid (kOk_succ3 HKO.out HE.out),Lib.hid ⟨_,HX.out⟩⟩,rfl⟩
      case measure=>simp[intOf]
     ·have f0:(x.k3==0)=false:=beq_eq_false_iff_ne.2 e0
      by_cases e7:x.k3=7
      ·have f1:(x.k3==7)=true:=beq_iff_eq.2 e7
       have HE7:=Lib.hid e7
       have HU3:Hid (U64 a3):=Lib.hid HU.out.2.2.2
       clear e0 e7
       have HCl:Hid (Calls Tryz.prog 169 #[.pointer (some ⟨G.K,0,none⟩)] wr.drew fun e W=>e= .returned (.int .i64 F.cells)∧W.cell? ⟨bx,3,none⟩=some (.int .u64 a3)∧ ∃o,KernP F W o G M n∧Touch (fun t=>t≠ .other) w W own o∧BoxAt W o bx #[.int .u64 a0, .int .u64 a1, .int .u64 a2, .int .u64 a3] 69):=Lib.hid (by
        refine (HFc.out _ _ H3.out.drew).mono ?_
        rintro e W ⟨rfl,hb⟩
        have tb:=touch_below (ts:=fun t=>t≠ .other) (t:= .other) (own:=o) hb
        have E:=BoxAt.move (w:=wr.drew) HB3.out tb
        exact ⟨rfl,E.cells.2 3,_,H3.out.drew.below hb,(HT3.out.trans (touch_drew wr o)).trans tb,E⟩)
       have c3:wr.cell? ⟨bx,3,none⟩=some (.int .u64 a3):=HB3.out.cells.2 3
       have HBase:Hid (0≤F.cells∧F.cells≤256):=Lib.hid (by have:=H3.out.fok.wide;unfold Fixed.cells;omega)
       have hcw:IntKind.u64.wrap F.cells=F.cells:=by have:=HBase.out;rw[IntKind.wrap_u64];omega
       generalize hnc:F.cells=nc at*
       have HNc:=Lib.hid hnc
       clear hnc
       go_wp2_with fail
       go_region_held3 (fun W=>W.cell? ⟨bx,3,none⟩=some (.int .u64 a3)) (first|exact c3|exact z0|go_keep) (first|(go_at_call 169;refine HCl.out.mono ?_;rintro e w3 ⟨rfl,z0,hx⟩))
       obtain ⟨o4,hx⟩:=hx
       have HX:=Lib.hid hx
       clear hx z0
       by_cases hge:nc≤a3
       ·have fge:decide (nc≤a3)=true:=decide_eq_true hge
        have HBad:Hid (kindOk F M x.k3 a3=false):=Lib.hid (by unfold kindOk;rw[HE7.out,HNc.out];simp;omega)
        go_wp2_with fail
        go_ret
        obtain ⟨k1,k2⟩:=HX.out
        exact ⟨HRes.out.bad (by rw[HBad.out];simp),_,k1,k2.1⟩
       ·have fge:decide (nc≤a3)=false:=decide_eq_false hge
        have hge2:a3<nc:=by omega
        have HE:Hid (kindOk F M x.k3 a3=true):=Lib.hid (by unfold kindOk;rw[HE7.out,HNc.out];simp;omega)
        go_wp2_with fail
        go_roundw
        case rel=>
         first
          |exact ⟨4,by omega,by go_num,Lib.hid (kOk_succ3 HKO.out HE.out),Lib.hid ⟨_,HX.out⟩⟩
          |exact ⟨_,_,_,_,_,_,⟨4,by omega,by go_num,Lib.hid (kOk_succ3 HKO.out HE.out),Lib.hid ⟨_,HX.out⟩⟩,rfl,rfl,rfl,rfl,rfl,rfl⟩
          |exact ⟨_,_,_,_,_,_,_,_,_,_,_,_,_,_,_,_,_,_,_,_,_,_,_,_,_,_,_,_,_,_,_,_,_,_,_,_,⟨4,by omega,by go_num,Lib.hid (kOk_succ3 HKO.out HE.out),Lib.hid ⟨_,HX.out⟩⟩,rfl⟩
        case measure=>simp[intOf]
      ·have f1:(x.k3==7)=false:=beq_eq_false_iff_ne.2 e7
       have HE0:=Lib.hid e0
       have HE7:=Lib.hid e7
       clear e0 e7
       have km:wr.cell? ⟨G.K,1013,none⟩=some (.pointer (some ⟨G.O,0,none⟩)):=(H3.out.kcells).2.2.2.2.2.2.1
       have c3:wr.cell? ⟨bx,3,none⟩=some (.int .u64 a3):=HB3.out.cells.2 3
       have HFd:Hid (Calls Tryz.prog 256 #[.pointer (some ⟨G.O,0,none⟩), .int .u64 a3, .int .i64 x.k3] wr.drew fun e W=>FindEnd (findO M.objs a3 x.k3) e∧(W.cell? ⟨G.K,1013,none⟩=some (.pointer (some ⟨G.O,0,none⟩))∧W.cell? ⟨bx,3,none⟩=some (.int .u64 a3))∧ ∃o,KernP F W o G M n∧Touch (fun t=>t≠ .other) w W own o∧BoxAt W o bx #[.int .u64 a0, .int .u64 a1, .int .u64 a2, .int .u64 a3] 69):=Lib.hid (by
        refine (kfind H3.out.drew a3 x.k3 HU.out.2.2.2).mono fun e W hq=>?_
        obtain ⟨q1,hb⟩:=FindOut.parts hq
        have tb:=touch_below (ts:=fun t=>t≠ .other) (t:= .other) (own:=o) hb
        have E:=BoxAt.move (w:=wr.drew) HB3.out tb
        have h5:=H3.out.drew.below hb
        exact ⟨q1,⟨(h5.kcells).2.2.2.2.2.2.1,E.cells.2 3⟩,_,h5,(HT3.out.trans (touch_drew wr o)).trans tb,E⟩)
       cases hfo:findO M.objs a3 x.k3 with
       |none=>
        rw[hfo] at HFd
        have HBad:Hid (kindOk F M x.k3 a3=false):=Lib.hid (by unfold kindOk;rw[if_neg HE0.out,if_neg HE7.out,hfo];rfl)
        clear hfo
        go_wp2_with fail
        go_region_held3 (fun W=>W.cell? ⟨G.K,1013,none⟩=some (.pointer (some ⟨G.O,0,none⟩))∧W.cell? ⟨bx,3,none⟩=some (.int .u64 a3)) (first|exact ⟨km,c3⟩ |exact ⟨z0,z1⟩ |go_keep) (first|(go_at_call 256;refine HFd.out.mono ?_;rintro e w3 ⟨⟨te,xe,rfl⟩,⟨z0,z1⟩,hx⟩))
        obtain ⟨o4,hx⟩:=hx
        have HX:=Lib.hid hx
        clear hx z0 z1
        go_wp2_with fail
        go_ret
        obtain ⟨k1,k2⟩:=HX.out
        exact ⟨HRes.out.bad (by rw[HBad.out];simp),_,k1,k2.1⟩
       |some v=>
        rw[hfo] at HFd
        have HE:Hid (kindOk F M x.k3 a3=true):=Lib.hid (by unfold kindOk;rw[if_neg HE0.out,if_neg HE7.out,hfo];rfl)
        clear hfo
        go_wp2_with fail
        go_region_held3 (fun W=>W.cell? ⟨G.K,1013,none⟩=some (.pointer (some ⟨G.O,0,none⟩))∧W.cell? ⟨bx,3,none⟩=some (.int .u64 a3)) (first|exact ⟨km,c3⟩ |exact ⟨z0,z1⟩ |go_keep) (first|(go_at_call 256;refine HFd.out.mono ?_;rintro e w3 ⟨rfl,⟨z0,z1⟩,hx⟩))
        obtain ⟨o4,hx⟩:=hx
        have HX:=Lib.hid hx
        clear hx z0 z1
        go_wp2_with fail
        go_roundw
        case rel=>
         first
          |exact ⟨4,by omega,by go_num,Lib.hid (kOk_succ3 HKO.out HE.out),Lib.hid ⟨_,HX.out⟩⟩
          |exact ⟨_,_,_,_,_,_,⟨4,by omega,by go_num,Lib.hid (kOk_succ3 HKO.out HE.out),Lib.hid ⟨_,HX.out⟩⟩,rfl,rfl,rfl,rfl,rfl,rfl⟩
          |exact ⟨_,_,_,_,_,_,_,_,_,_,_,_,_,_,_,_,_,_,_,_,_,_,_,_,_,_,_,_,_,_,_,_,_,_,_,_,⟨4,by omega,by go_num,Lib.hid (kOk_succ3 HKO.out HE.out),Lib.hid ⟨_,HX.out⟩⟩,rfl⟩
        case measure=>simp[intOf]
    ·go_wp2_with fail
     go_ret
     exact ⟨HRes.out.good HKO.out,o,H3.out,HT3.out⟩
set_option maxRecDepth 100000 in
set_option maxHeartbeats 4000000 in
theorem refused_c (h:KernP F w own G M n) {id:Int} {r:Run} (hr:runOf M.runs id=some r) (num:Int) (hnum:0≤num∧num<1000) (a0 a1 a2 a3:Int) (u0:U64 a0) (u1:U64 a1) (u2:U64 a2) (u3:U64 a3) (hv:7≤r.l.length∧num≠2):
  Calls Tryz.prog 255 #[.pointer (some ⟨G.K,0,none⟩), .pointer (some ⟨G.tb id,0,none⟩), .int .i64 num, .agg #[.int .u64 a0, .int .u64 a1, .int .u64 a2, .int .u64 a3]] w fun e w'=>e= .returned (.int .u64 (refused F M r num a0 a1 a2 a3))∧KO F w own G M n w':=by
 obtain ⟨k,hk⟩:=Int.eq_ofNat_of_zero_le hnum.1
 subst hk
 have hk2:k<1000:=by omega
 obtain ⟨w1,hw1⟩: ∃w1,w1=(w.alloc (.cells #[.int .u64 a0, .int .u64 a1, .int .u64 a2, .int .u64 a3] 69)):=⟨_,rfl⟩
 have l3:Below w.heap.size w w1:=by rw[hw1];exact below_al (Below.refl _ _) _
 have l1:w1.heap[w.heap.size]?=some (.cells #[.int .u64 a0, .int .u64 a1, .int .u64 a2, .int .u64 a3] 69 (0,0)):=by rw[hw1];exact heap_alloc_new w _
 have h1:=h.below l3
 have t1:Touch (fun t=>t≠ .other) w w1 own (ext own w.heap.size .other):=touch_below l3
 have B4:BoxAt w1 (ext own w.heap.size .other) w.heap.size _ 69:=⟨l1,ext_tag (Or.inr (Nat.le_refl _))⟩
 generalize ext own w.heap.size .other=own1 at h1 t1 B4
 have row:w1.cell? ⟨G.K,7+k,none⟩=some (.int .i64 (rowIx F.calls k:Nat)):=h1.kcell fun _ _ hc=>hc.rows k hk2
 have H1:=Lib.hid h1
 have HT1:=Lib.hid t1
 have HB4:=Lib.hid B4
 have HR:=Lib.hid hr
 have HV:=Lib.hid hv
 clear hv
 cases hrow:rowOf F.calls k with
 |none=>
  rw[rowIx_none hrow] at row
  have er:refused F M r k a0 a1 a2 a3=38:=by unfold refused;rw[hrow]
  rw[er]
  clear h h1 t1 B4 l1 l3 hrow er hr
  go_enter Tryz.func255,Tryz.ntmps255
  go_upto_region 1 with fail
  rw[←hw1]
  clear hw1
  go_wp2_with fail
  go_ret
  exact ⟨rfl,own1,H1.out,HT1.out⟩
 |some x=>
  obtain ⟨p,hpx,hp⟩:=rowIx_some hrow
  rw[hpx] at row
  obtain ⟨gc,cc,hcv,hrc,hgc,hgl⟩:=h1.fix.calls.rowAt hp
  have kc:w1.cell? ⟨G.K,2,none⟩=some G.cv:=h1.kcell fun _ _ hc=>hc.calls
  rw[hcv] at kc
  have hpl:=(List.getElem?_eq_some_iff.1 hp).1
  have hfew:=h1.fok.few
  have r2:w1.cell? ⟨gc,p*6+2,none⟩=some (.int .i64 x.k0):=hrc 2 (by decide)
  have r3:w1.cell? ⟨gc,p*6+2+1,none⟩=some (.int .i64 x.k1):=hrc 3 (by decide)
  have r4:w1.cell? ⟨gc,p*6+2+2,none⟩=some (.int .i64 x.k2):=hrc 4 (by decide)
  have r5:w1.cell? ⟨gc,p*6+2+3,none⟩=some (.int .i64 x.k3):=hrc 5 (by decide)
  obtain ⟨c0,⟨lv,cl,hrl⟩,-,-,cfz⟩:=h1.thr_cells hr
  obtain ⟨lA,lc,hlv⟩:=Asm.own_shape hrl.1
  have hlen:r.l.length≤100:=(h1.runs.each r (runOf_mem hr).1).few
  subst hlv
  have hKl:=h1.klt
  have hRef: ∀_: ¬(7≤r.l.length∧(k:Int)≠2),refused F M r k a0 a1 a2 a3=_:=fun e=>refused_of hrow e
  have hE11:7≤r.l.length∧(k:Int)≠2→refused F M r k a0 a1 a2 a3=11:=fun e=>by unfold refused;rw[hrow];simp only;rw[if_pos e]
  have hLI:(0:Int)≤(r.l.length:Int)∧(r.l.length:Int)≤100:=by omega
  generalize hL:r.l.length=L at*
  have hpI:(0:Int)≤(p:Int)∧(p:Int)<(F.calls.length:Int):=by omega
  have hpw:IntKind.i64.wrap ((p:Int)+1 - 1)=(p:Int):=by rw[IntKind.wrap_i64];omega
  have hpw2:IntKind.i64.wrap (p:Int)=(p:Int):=by rw[IntKind.wrap_i64];omega
  have hp1:((p:Int)+1==0)=false:=beq_eq_false_iff_ne.2 (by omega)
  have hcast:((p+1:Nat):Int)=(p:Int)+1:=by omega
  rw[hcast] at row
  generalize F.calls.length=NC at*
  clear h h1 t1 B4 l1 l3 hrow hr hpx hp hcv hrc hgc hgl hpl hfew hrl cfz hcast
  by_cases h7:7≤L∧(k:Int)≠2
  ·rw[hE11 h7]
   have f7:decide ((7:Int)≤(L:Int))=true:=decide_eq_true (by omega)
   have f2:((k:Int)==2)=false:=beq_eq_false_iff_ne.2 h7.2
   clear hE11 hRef h7
   go_enter Tryz.func255,Tryz.ntmps255
   go_upto_region 1 with fail
   rw[←hw1]
   clear hw1
   go_wp2_with fail
   go_ret
   exact ⟨rfl,own1,H1.out,HT1.out⟩
  ·have HRes:Hid (ResOf F M x a0 a1 a2 a3 (refused F M r k a0 a1 a2 a3)):=Lib.hid (hRef h7)
   generalize refused F M r k a0 a1 a2 a3=res at*
   have h7':(¬7≤L)∨(7≤L∧(k:Int)=2):=by omega
   have HFc:=Lib.hid (fun (W:World) (o:Own) (q:KernP F W o G M n)=>cells_any q)
   have HU:Hid (U64 a0∧U64 a1∧U64 a2∧U64 a3):=Lib.hid ⟨u0,u1,u2,u3⟩
   clear hE11 hRef h7 u0 u1 u2 u3
   rcases h7' with q|⟨q,q2⟩
   ·have:=HV.out
    omega
   ·have:=HV.out
    omega
theorem refused_any (h:KernP F w own G M n) {id:Int} {r:Run} (hr:runOf M.runs id=some r) (num:Int) (hnum:0≤num∧num<1000) (a0 a1 a2 a3:Int) (u0:U64 a0) (u1:U64 a1) (u2:U64 a2) (u3:U64 a3):
  Calls Tryz.prog 255 #[.pointer (some ⟨G.K,0,none⟩), .pointer (some ⟨G.tb id,0,none⟩), .int .i64 num, .agg #[.int .u64 a0, .int .u64 a1, .int .u64 a2, .int .u64 a3]] w fun e w'=>e= .returned (.int .u64 (refused F M r num a0 a1 a2 a3))∧KO F w own G M n w':=by
 by_cases h7:7≤r.l.length
 ·by_cases h2:num=2
  ·exact refused_b h hr num hnum a0 a1 a2 a3 u0 u1 u2 u3 ⟨h7,h2⟩
  ·exact refused_c h hr num hnum a0 a1 a2 a3 u0 u1 u2 u3 ⟨h7,h2⟩
 ·exact refused_a h hr num hnum a0 a1 a2 a3 u0 u1 u2 u3 h7
end
end Go.Proofs.YtaangaogmnlljaaGreatDoor.Kn
