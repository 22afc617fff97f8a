/- Part 39 of what the proof stands on: KnNewF. -/
import Derived.Test.YtaangaogmnlljaaGreatDoorP36
set_option linter.unusedVariables false
set_option maxRecDepth 100000
set_option maxHeartbeats 40000000
namespace Go.Proofs.YtaangaogmnlljaaGreatDoor.Kn
open Go.RowKit Asm Errs
theorem fclient_row {w:World} {A:Option Addr} {c:Nat} {l:List InsL} {entry wide narrow:Int} (hd:Door w) (h:w.ownsRow 0 68 7 (.slice A l.length c) l.length (codeC l)) (hnb:l.length≤9223372036854775807)
  (hwb: -9223372036854775808≤wide∧wide≤9223372036854775807):
  Calls Tryz.prog 77 #[.agg #[.slice A l.length c, .int .i64 entry, .int .i64 wide, .int .i64 narrow]] w (ErrOr w (clientE l entry wide narrow)):=by
 by_cases h0:l.length=0
 ·exact fclient_bad rfl hnb (Or.inr (Or.inr (Or.inr (Or.inr h0))))
 ·obtain ⟨g,c',hv,hc,hg⟩:=row_code h (by omega)
  have e:A=some ⟨g,0,none⟩:=by injection hv
  subst e
  exact fclient_any hd hc hg rfl hnb hwb
def newE (kw kc:Int) (l:List InsL) (entry wide narrow:Int):Option ErrK:=
 if kw<1∨64<kw then some ([(kernS,1)],1)
 else if kc<1∨65536<kc then some ([(kernS,2)],1)
 else match clientE l entry wide narrow with
  |some x=>some ((kernS,4)::x.1,x.2)
  |none=>if kc<17+8*kw+wide+narrow+1 then some ([(kernS,0)],3) else none
def NewFail (w:World) (x:ErrK) (e:Ending) (w':World):Prop:= ∃v,e= .returned (.tuple #[.pointer none,v])∧IsErr w' x.1 x.2 v∧Below w.heap.size w w'
theorem clientE_none {l:List InsL} {entry wide narrow:Int} (h:clientE l entry wide narrow=none):0≤wide∧0≤narrow∧wide+narrow≤256∧0<l.length∧l.length≤2048∧(∀x∈l,mayK x l.length false=true)∧0≤entry∧entry<l.length:=by
 unfold clientE at h
 split at h
 ·cases h
 ·rename_i hb
  split at h
  ·cases h
  ·rename_i ha
   unfold againK at ha
   have hc:=Option.map_eq_none_iff.1 ha
   unfold checkK at hc
   split at hc
   ·cases hc
   ·rename_i hl
    have hbk:=Option.map_eq_none_iff.1 hc
    unfold badK at hbk
    rw[List.findIdx?_eq_none_iff] at hbk
    unfold placeK at h
    split at h
    ·cases h
    ·refine ⟨by omega,by omega,by omega,by omega,by omega,fun x hx=>by have:=hbk x hx;simpa using this,by omega,by omega⟩
set_option maxRecDepth 100000 in
theorem knew_fails {w:World} {kw kc loop entry wide narrow:Int} {Al Ac Ap:Option Addr} {nl cl nc cc cp:Nat} {l:List InsL} {x:ErrK} (hd:Door w)
  (hlib: ∀W,Below w.heap.size w W→Calls Tryz.prog 76 #[.agg #[.slice Al nl cl, .int .i64 loop, .slice Ac nc cc]] W fun e w'=>e= .returned .nilIface∧Below W.heap.size W w')
  (hpv:w.ownsRow 0 68 7 (.slice Ap l.length cp) l.length (codeC l)) (hnb:l.length≤9223372036854775807) (hwb: -9223372036854775808≤wide∧wide≤9223372036854775807) (hx:newE kw kc l entry wide narrow=some x):
  Calls Tryz.prog 28 #[.agg #[.int .i64 kw, .int .i64 kc], .agg #[.slice Al nl cl, .int .i64 loop, .slice Ac nc cc], .agg #[.slice Ap l.length cp, .int .i64 entry, .int .i64 wide, .int .i64 narrow]] w (NewFail w x):=by
 have hb0:Below w.heap.size w (((w.alloc (.cells #[.int .i64 kw, .int .i64 kc] 23)).alloc (.cells #[.slice Al nl cl, .int .i64 loop, .slice Ac nc cc] 77)).alloc (.cells #[.slice Ap l.length cp, .int .i64 entry, .int .i64 wide, .int .i64 narrow] 26)):=((((Below.refl _ w).alloc (Nat.le_refl _) _).alloc (by simp) _).alloc (by simp;omega) _)
 obtain ⟨l1,l2,l3⟩:=laid2 (w.alloc (.cells #[.int .i64 kw, .int .i64 kc] 23)) (.cells #[.slice Al nl cl, .int .i64 loop, .slice Ac nc cc] 77) (.cells #[.slice Ap l.length cp, .int .i64 entry, .int .i64 wide, .int .i64 narrow] 26)
 have l0:=(l3.block w.heap.size (by simp)).trans (heap_alloc_new w (.cells #[.int .i64 kw, .int .i64 kc] 23))
 rw[World.size_alloc] at l1 l2
 obtain ⟨wA,hwA⟩: ∃wA,wA=(((w.alloc (.cells #[.int .i64 kw, .int .i64 kc] 23)).alloc (.cells #[.slice Al nl cl, .int .i64 loop, .slice Ac nc cc] 77)).alloc (.cells #[.slice Ap l.length cp, .int .i64 entry, .int .i64 wide, .int .i64 narrow] 26)):=⟨_,rfl⟩
 rw[←hwA] at hb0 l0 l1 l2
 clear l3
 have HB0:=Lib.hid hb0
 have L0:=Lib.hid l0
 have L1:=Lib.hid l1
 have L2:=Lib.hid l2
 have HD:=Lib.hid hd
 have hp0:=door_pos hd
 have HPv:=Lib.hid hpv
 have HLb:=Lib.hid (hlib wA hb0)
 have HKF:=Lib.hid (fun (n k:Int) (W:World)=>kernfail_any n (v:= .iface 86 (.int .i64 k)) (r:= []) (k:=k) W rfl)
 clear hb0 l0 l1 l2 hd hlib hpv
 by_cases h1:kw<1∨64<kw
 ·have e1:x=([(kernS,1)],1):=by unfold newE at hx;rw[if_pos h1] at hx;exact (Option.some.inj hx).symm
  subst e1
  have h1':kw<1∨(¬kw<1∧64<kw):=by omega
  clear h1 hx hnb hwb
  rcases h1' with h1|⟨h1,h2⟩
  all_goals
   go_enter Tryz.func28,Tryz.ntmps28
   go_wp2_with fail
   try rw[←hwA]
   clear hwA
   refine (HKF.out _ _ _).mono ?_
   rintro e w1 ⟨v,rfl,hv,hb⟩
   have HV:=Lib.hid hv
   have HB:=Lib.hid (HB0.out.trans (hb.mono HB0.out.size))
   clear hv hb
   go_wp2_with fail
   go_ret2
   exact ⟨v,rfl,HV.out,HB.out⟩
 by_cases h2:kc<1∨65536<kc
 ·have e1:x=([(kernS,2)],1):=by unfold newE at hx;rw[if_neg h1,if_pos h2] at hx;exact (Option.some.inj hx).symm
  subst e1
  have h1a: ¬kw<1:=by omega
  have h1b: ¬64<kw:=by omega
  have h2':kc<1∨(¬kc<1∧65536<kc):=by omega
  clear h1 hx hnb hwb h2
  rcases h2' with h2|⟨h2,h3⟩
  all_goals
   go_enter Tryz.func28,Tryz.ntmps28
   go_wp2_with fail
   try rw[←hwA]
   clear hwA
   refine (HKF.out _ _ _).mono ?_
   rintro e w1 ⟨v,rfl,hv,hb⟩
   have HV:=Lib.hid hv
   have HB:=Lib.hid (HB0.out.trans (hb.mono HB0.out.size))
   clear hv hb
   go_wp2_with fail
   go_ret2
   exact ⟨v,rfl,HV.out,HB.out⟩
 have h1a: ¬kw<1:=by omega
 have h1b: ¬64<kw:=by omega
 have h2a: ¬kc<1:=by omega
 have h2b: ¬65536<kc:=by omega
 have HCl:Hid (∀W,Below w.heap.size w W→Calls Tryz.prog 77 #[.agg #[.slice Ap l.length cp, .int .i64 entry, .int .i64 wide, .int .i64 narrow]] W (ErrOr W (clientE l entry wide narrow))):=Lib.hid fun W hW=>fclient_row (HD.out.below hW hp0) (ownsRow_of_block HPv.out fun b e=>hW.block b (HPv.out.lt b e).2) hnb hwb
 cases hc:clientE l entry wide narrow with
 |some y=>
  have e1:x=((kernS,4)::y.1,y.2):=by unfold newE at hx;rw[if_neg h1,if_neg h2,hc] at hx;exact (Option.some.inj hx).symm
  subst e1
  rw[hc] at HCl
  clear h1 h2 hx hc hnb hwb HPv
  go_enter Tryz.func28,Tryz.ntmps28
  go_wp2_with fail
  try rw[←hwA]
  clear hwA
  refine HLb.out.mono ?_
  rintro e w1 ⟨rfl,hb1⟩
  have z2:=(hb1.block _ (blk_in L2.out)).trans L2.out
  have HB1:=Lib.hid (HB0.out.trans (hb1.mono HB0.out.size))
  have p0:=blk_cell z2 0
  have p1:=blk_cell z2 1
  have p2:=blk_cell z2 2
  have p3:=blk_cell z2 3
  clear hb1 z2 L0 L1 L2 HB0 HLb
  go_wp2_with fail
  refine (HCl.out w1 HB1.out).mono ?_
  rintro e w2 ⟨v,rfl,hv,hb2⟩
  obtain ⟨vt,vx,rfl⟩:=hv.form
  have HB2:=Lib.hid (HB1.out.trans (hb2.mono HB1.out.size))
  have HF:=Lib.hid (kernfail_any 4 w2 hv)
  clear hb2 hv p0 p1 p2 p3
  go_wp2_with fail
  refine HF.out.mono ?_
  rintro e w3 ⟨v,rfl,hv,hb⟩
  have HV:=Lib.hid hv
  have HB:=Lib.hid (HB2.out.trans (hb.mono HB2.out.size))
  clear hv hb
  go_wp2_with fail
  go_ret2
  exact ⟨v,rfl,HV.out,HB.out⟩
 |none=>
  have hroom:kc<17+8*kw+wide+narrow+1:=by
   unfold newE at hx
   rw[if_neg h1,if_neg h2,hc] at hx
   simp only at hx
   split at hx
   ·assumption
   ·cases hx
  have e1:x=([(kernS,0)],3):=by
   unfold newE at hx
   rw[if_neg h1,if_neg h2,hc] at hx
   simp only at hx
   rw[if_pos hroom] at hx
   exact (Option.some.inj hx).symm
  subst e1
  obtain ⟨hw0,hn0,hwn,-⟩:=clientE_none hc
  rw[hc] at HCl
  obtain ⟨n,hn⟩: ∃n:Nat,kw=n:=⟨kw.toNat,by omega⟩
  subst hn
  have hnI:(1:Int)≤(n:Int)∧(n:Int)≤64:=by omega
  have hsum:=Lib.hid (And.intro hw0 (And.intro hn0 hwn))
  have hs1:IntKind.i64.wrap (17+8* (n:Int)+wide)=17+8* (n:Int)+wide:=by rw[IntKind.wrap_i64];omega
  have hs2:IntKind.i64.wrap (17+8* (n:Int)+wide+narrow)=17+8* (n:Int)+wide+narrow:=by rw[IntKind.wrap_i64];omega
  have hs3:IntKind.i64.wrap (17+8* (n:Int)+wide+narrow+1)=17+8* (n:Int)+wide+narrow+1:=by rw[IntKind.wrap_i64];omega
  have hrm:=hroom
  clear h1 h2 hx hc hnb hwb HPv hw0 hn0 hwn hroom
  go_enter Tryz.func28,Tryz.ntmps28
  go_wp2_with fail
  try rw[←hwA]
  clear hwA
  refine HLb.out.mono ?_
  rintro e w1 ⟨rfl,hb1⟩
  have z2:=(hb1.block _ (blk_in L2.out)).trans L2.out
  have z0:=(hb1.block _ (blk_in L0.out)).trans L0.out
  have HB1:=Lib.hid (HB0.out.trans (hb1.mono HB0.out.size))
  have p0:=blk_cell z2 0
  have p1:=blk_cell z2 1
  have p2:=blk_cell z2 2
  have p3:=blk_cell z2 3
  have Z0:=Lib.hid z0
  have Z2:=Lib.hid z2
  clear hb1 z2 z0 L0 L1 L2 HB0 HLb
  go_wp2_with fail
  refine (HCl.out w1 HB1.out).mono ?_
  rintro e w2 ⟨rfl,hb2⟩
  have z2:=(hb2.block _ (blk_in Z2.out)).trans Z2.out
  have z0:=(hb2.block _ (blk_in Z0.out)).trans Z0.out
  have HB2:=Lib.hid (HB1.out.trans (hb2.mono HB1.out.size))
  have q0:w2.cell? ⟨w.heap.size,0,none⟩=some (.int .i64 (n:Int)):=blk_cell z0 0
  have q0l:=blk_in z0
  have Z0:=Lib.hid z0
  have Z2:=Lib.hid z2
  clear hb2 z0 z2 p0 p1 p2 p3 HCl HB1
  have hmm:=@run_makeMap Tryz.prog
  have hmk:=make_wk n (by omega)
  have hbm:=build_mach
  have HCk:=Lib.hid clknew_any
  have HBel:Hid (∀W W':World,Below w2.heap.size w2 W→Below W.heap.size W W'→Below w2.heap.size w2 W'):=Lib.hid fun W W' a b=>a.trans (b.mono a.size)
  have HQ:Hid (∀W:World,Below w2.heap.size w2 W→W.cell? ⟨w.heap.size,0,none⟩=some (.int .i64 (n:Int))):=Lib.hid fun W a=>(a.cell (p:=⟨w.heap.size,0,none⟩) q0l).trans q0
  go_upto_region 11 with fail
  go_cut [3,4,5,10] (fun a3 a4 a5 a10 wx=>a3= .pointer (some ⟨w.heap.size,0,none⟩)∧a4= .pointer (some ⟨w.heap.size+1,0,none⟩)∧a5= .pointer (some ⟨w.heap.size+1+1,0,none⟩)∧ ∃K th gW C,a10= .pointer (some ⟨K,0,none⟩)∧Hid (MadeS w2 wx n K th gW C))
  case first=>
   clear Z0 Z2 HB2 hsum HKF hs1 hs2 hs3 hrm
   have hrefl:=Below.refl w2.heap.size w2
   go_region_with (go_at_call 78;refine (HCk.out _).mono ?_;rintro e w3 ⟨C,hb,hm,ab,rfl,hC,hC1,hC2,hC3,hC4,hB3⟩;have hW:=HBel.out _ w3 (by repeat first|exact Below.refl _ _|refine below_al ?_ _|refine Below.drew ?_) hB3;have q0':=HQ.out _ hW;have ql':=Nat.lt_of_lt_of_le q0l hW.size)
   all_goals
    clear HQ hmm hmk hbm HCk HBel q0' ql' q0 q0l
    go_wp2_with fail
    go_meet
    have hz3:=hB3.size
    have hz4:=hW.size
    simp only[World.size_alloc,World.size_drew] at hz3 hz4 hC1 hC2 hC3 hC4
    refine ⟨rfl,rfl,rfl,?_⟩
    apply made_fin
    case hK=>repeat (first|with_reducible refine (heap_dr _ _).trans ?_|exact heap_at (by (first|(with_reducible exact Nat.le_refl _) |(simp only[World.size_alloc]<;>omega) |omega)) |refine (Below.heap_alloc _ _ _ (by (first|(with_reducible exact Nat.le_refl _) |(simp only[World.size_alloc,World.size_drew]<;>omega) |omega))).trans ?_|refine (hB3.block _ (by (first|(with_reducible exact Nat.le_refl _) |(simp only[World.size_alloc,World.size_drew]<;>omega) |omega))).trans ?_)
    case hC=>exact hC
    case h1=>exact hC1
    case h2=>exact hC2
    case h3=>exact hC3
    case h4=>exact hC4
    case hth=>repeat (first|with_reducible refine (heap_dr _ _).trans ?_|exact heap_at (by (first|(with_reducible exact Nat.le_refl _) |(simp only[World.size_alloc]<;>omega) |omega)) |refine (Below.heap_alloc _ _ _ (by (first|(with_reducible exact Nat.le_refl _) |(simp only[World.size_alloc]<;>omega) |omega))).trans ?_|refine (hB3.block _ (by (first|(with_reducible exact Nat.le_refl _) |(simp only[World.size_alloc,World.size_drew]<;>omega) |omega))).trans ?_)
    case hgW=>repeat (first|with_reducible refine (heap_dr _ _).trans ?_|exact heap_at (by (first|(with_reducible exact Nat.le_refl _) |(simp only[World.size_alloc]<;>omega) |omega)) |refine (Below.heap_alloc _ _ _ (by (first|(with_reducible exact Nat.le_refl _) |(simp only[World.size_alloc]<;>omega) |omega))).trans ?_|refine (hB3.block _ (by (first|(with_reducible exact Nat.le_refl _) |(simp only[World.size_alloc,World.size_drew]<;>omega) |omega))).trans ?_)
    case hkeep=>
     intro b hb
     repeat (first|rfl|with_reducible refine (heap_dr _ _).trans ?_|refine (Below.heap_alloc _ _ _ (by (first|(with_reducible exact Nat.le_refl _) |(simp only[World.size_alloc]<;>omega) |omega))).trans ?_)
    case hlo=>(first|(with_reducible exact Nat.le_refl _) |(simp only[World.size_alloc,World.size_drew]<;>omega) |omega)
    case hd=>(first|(with_reducible exact Nat.le_refl _) |(simp only[World.size_alloc,World.size_drew]<;>omega) |omega)
    case hKw=>(first|(with_reducible exact Nat.le_refl _) |(simp only[World.size_alloc,World.size_drew]<;>omega) |omega)
    case ht=>(first|(with_reducible exact Nat.le_refl _) |(simp only[World.size_alloc,World.size_drew]<;>omega) |omega)
    case hg=>(first|(with_reducible exact Nat.le_refl _) |(simp only[World.size_alloc,World.size_drew]<;>omega) |omega)
    case hbel=>repeat (first|exact hW|refine below_al ?_ _|refine Below.drew ?_)
  case rest=>
   obtain ⟨rfl,rfl,rfl,K,th,gW,C,rfl,HMd⟩:=hcut
   clear q0 hmm hmk hbm HCk HBel HQ
   have hbw:=HMd.out.below
   have z2:=(hbw.block _ (blk_in Z2.out)).trans Z2.out
   have z0:=(hbw.block _ (blk_in Z0.out)).trans Z0.out
   have q1:wc.cell? ⟨w.heap.size,1,none⟩=some (.int .i64 kc):=blk_cell z0 1
   have p2:wc.cell? ⟨w.heap.size+1+1,2,none⟩=some (.int .i64 wide):=blk_cell z2 2
   have p3:wc.cell? ⟨w.heap.size+1+1,3,none⟩=some (.int .i64 narrow):=blk_cell z2 3
   have HBs:Hid (∀q,Calls Tryz.prog 42 #[.pointer (some ⟨K,0,none⟩)] (wc.drewN q) fun e w'=>e= .returned (.int .i64 (17+8* (n:Int)))∧wc.drewN q=w'):=Lib.hid fun q=>base_at (w:=wc.drewN q) (HMd.out.kb.cs 8 rfl) (by omega)
   have HBc:=Lib.hid (HB2.out.trans (hbw.mono HB2.out.size))
   clear z0 z2 hbw q0l
   go_wp2_with fail
   go_quiet ((go_at_call 42;exact quiet_lf (HBs.out _)))
   go_wp2_with fail
   refine (HKF.out _ _ _).mono ?_
   rintro e w5 ⟨v,rfl,hv,hb⟩
   have HV:=Lib.hid hv
   have HB:=Lib.hid ((bel_dn HBc.out nq).trans (hb.mono (bel_dn HBc.out nq).size))
   clear hv hb
   go_wp2_with fail
   go_ret2
   exact ⟨v,rfl,HV.out,HB.out⟩
end Go.Proofs.YtaangaogmnlljaaGreatDoor.Kn
