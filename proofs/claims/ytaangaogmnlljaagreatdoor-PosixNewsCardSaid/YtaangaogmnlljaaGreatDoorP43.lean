/- Part 43 of what the proof stands on: RdNewX, KnPNew, KnPNewF. -/
import Derived.Test.YtaangaogmnlljaaGreatDoorP37
import Derived.Test.YtaangaogmnlljaaGreatDoorP39
import Derived.Test.YtaangaogmnlljaaGreatDoorP40
set_option linter.unusedVariables false
set_option maxRecDepth 100000
set_option maxHeartbeats 40000000
namespace Go.Proofs.YtaangaogmnlljaaGreatDoor.Kn
open Go.RowKit Go.Maps Asm Errs
theorem clientE_len {l:List InsL} {entry wide narrow:Int} {y:ErrK} (h:clientE l entry wide narrow=some y):0<y.1.length∧y.1.length≤1000:=by
 unfold clientE at h
 split at h
 ·injection h with h
  subst h
  exact ⟨Nat.one_pos,by simp⟩
 ·unfold againK at h
  cases hc:checkK l with
  |none=>
   rw[hc] at h
   unfold placeK at h
   simp only[Option.map_none] at h
   split at h
   ·injection h with h
    subst h
    exact ⟨Nat.one_pos,by simp⟩
   ·cases h
  |some x=>
   obtain ⟨n,e⟩:=checkK_one hc
   rw[hc] at h
   simp only[Option.map_some] at h
   injection h with h
   subst h
   simp[e]
theorem fail_ptr {w:World} {r:List (ByteArray×Int)} {k:Int} {v:Value} (h:IsFail w r k v): ∃b,v= .pointer (some b):=by
 obtain ⟨fb,_,_,_,_,e,-⟩:=h
 exact ⟨_,e⟩
set_option maxRecDepth 100000 in
theorem rdnew_bad {w:World} {kw kc loop entry wide narrow:Int} {Al Ac Ap:Option Addr} {nl cl nc cc cp:Nat} {l:List InsL} {x:ErrK}
  (hlib: ∀W,Below w.heap.size w W→Calls Tryz.prog 86 #[.agg #[.slice Al nl cl, .int .i64 loop, .slice Ac nc cc]] W fun e w'=>e= .returned (.pointer none)∧Below W.heap.size W w')
  (hcli: ∀W,Below w.heap.size w W→Calls Tryz.prog 87 #[.agg #[.slice Ap l.length cp, .int .i64 entry, .int .i64 wide, .int .i64 narrow]] W (FailOr W (clientE l entry wide narrow)))
  (hx:newE kw kc l entry wide narrow=some x) (hy: ¬(1≤kw∧kw≤64∧1≤kc∧kc≤65536∧clientE l entry wide narrow=none)):
  Calls Tryz.prog 31 #[.agg #[.int .i64 kw, .int .i64 kc], .agg #[.slice Al nl cl, .int .i64 loop, .slice Ac nc cc], .agg #[.slice Ap l.length cp, .int .i64 entry, .int .i64 wide, .int .i64 narrow]] w (RNewFail w x):=by
 obtain ⟨wA,hwA⟩: ∃wA,wA=((w.alloc (.cells #[.int .i64 kw, .int .i64 kc] 23)).alloc (.cells #[.slice Al nl cl, .int .i64 loop, .slice Ac nc cc] 77)).alloc (.cells #[.slice Ap l.length cp, .int .i64 entry, .int .i64 wide, .int .i64 narrow] 26):=⟨_,rfl⟩
 have hbA:Below w.heap.size w wA:=by rw[hwA];exact ((((Below.refl _ w).alloc (Nat.le_refl _) _).alloc (by simp) _).alloc (by simp;omega) _)
 have q0:wA.heap[w.heap.size]?=some (.cells #[.int .i64 kw, .int .i64 kc] 23 (0,0)):=by rw[hwA];exact three0 w _ _ _
 have q1:wA.heap[w.heap.size+1]?=some (.cells #[.slice Al nl cl, .int .i64 loop, .slice Ac nc cc] 77 (0,0)):=by rw[hwA];exact three1 w _ _ _
 have q2:wA.heap[w.heap.size+2]?=some (.cells #[.slice Ap l.length cp, .int .i64 entry, .int .i64 wide, .int .i64 narrow] 26 (0,0)):=by rw[hwA];exact three2 w _ _ _
 have HF1:=Lib.hid (fun W=>no_any kernS 1 1 W)
 have HF2:=Lib.hid (fun W=>no_any kernS 2 1 W)
 unfold kernS at HF1 HF2
 have HB:=Lib.hid hbA
 unfold newE at hx
 by_cases h1:kw<1∨64<kw
 ·rw[if_pos h1] at hx
  injection hx with hx
  subst hx
  rcases (by omega:kw<1∨(¬kw<1∧64<kw)) with h1|⟨h1,h2⟩
  all_goals
   go_enter Tryz.func31,Tryz.ntmps31
   go_upto_region 1 with fail
   try rw[←hwA]
   have x0:wA.cell? ⟨w.heap.size,0,none⟩=some (.int .i64 kw):=blk_cell q0 0
   have x1:wA.cell? ⟨w.heap.size,1,none⟩=some (.int .i64 kc):=blk_cell q0 1
   clear hwA
   go_wp2_with fail
   refine (HF1.out _).mono ?_
   rintro e w2 ⟨v,rfl,hv,hb⟩
   have HV:=Lib.hid (And.intro hv (HB.out.trans (hb.mono HB.out.size)))
   clear hv hb
   go_wp2_with fail
   go_ret2
   exact ⟨v,rfl,HV.out.1,HV.out.2⟩
 rw[if_neg h1] at hx
 by_cases h2:kc<1∨65536<kc
 ·rw[if_pos h2] at hx
  injection hx with hx
  subst hx
  have h3: ¬kw<1∧ ¬64<kw:=by omega
  obtain ⟨h3,h4⟩:=h3
  clear h1 hy
  rcases (by omega:kc<1∨(¬kc<1∧65536<kc)) with h5|⟨h5,h6⟩
  all_goals
   clear h2
   go_enter Tryz.func31,Tryz.ntmps31
   go_upto_region 1 with fail
   try rw[←hwA]
   have x0:wA.cell? ⟨w.heap.size,0,none⟩=some (.int .i64 kw):=blk_cell q0 0
   have x1:wA.cell? ⟨w.heap.size,1,none⟩=some (.int .i64 kc):=blk_cell q0 1
   clear hwA
   go_wp2_with fail
   refine (HF2.out _).mono ?_
   rintro e w2 ⟨v,rfl,hv,hb⟩
   have HV:=Lib.hid (And.intro hv (HB.out.trans (hb.mono HB.out.size)))
   clear hv hb
   go_wp2_with fail
   go_ret2
   exact ⟨v,rfl,HV.out.1,HV.out.2⟩
 rw[if_neg h2] at hx
 obtain ⟨y,hcy⟩: ∃y,clientE l entry wide narrow=some y:=by
  cases hc:clientE l entry wide narrow with
  |none=>exact absurd ⟨by omega,by omega,by omega,by omega,hc⟩ hy
  |some y=>exact ⟨y,rfl⟩
 rw[hcy] at hx
 injection hx with hx
 subst hx
 have hyl:0<y.1.length∧y.1.length≤1000:=clientE_len hcy
 have h3:(1:Int)≤kw∧kw≤64∧1≤kc∧kc≤65536:=by omega
 have HLib:=Lib.hid (fun W (hW:Below wA.heap.size wA W)=>hlib W (hbA.trans (hW.mono hbA.size)))
 have HCli:=Lib.hid (fun W (hW:Below wA.heap.size wA W)=>hcli W (hbA.trans (hW.mono hbA.size)))
 rw[hcy] at HCli
 have HY:Hid (∀W,Below wA.heap.size wA W→W.cell? ⟨w.heap.size,0,none⟩=some (.int .i64 kw)∧W.cell? ⟨w.heap.size,1,none⟩=some (.int .i64 kc)∧W.cell? ⟨w.heap.size+1,0,none⟩=some (.slice Al nl cl)∧W.cell? ⟨w.heap.size+1,1,none⟩=some (.int .i64 loop)∧W.cell? ⟨w.heap.size+1,2,none⟩=some (.slice Ac nc cc)∧W.cell? ⟨w.heap.size+2,0,none⟩=some (.slice Ap l.length cp)∧W.cell? ⟨w.heap.size+2,1,none⟩=some (.int .i64 entry)∧W.cell? ⟨w.heap.size+2,2,none⟩=some (.int .i64 wide)∧W.cell? ⟨w.heap.size+2,3,none⟩=some (.int .i64 narrow)):=Lib.hid fun W hW=>by
  have k0:=(hW.block _ (blk_in q0)).trans q0
  have k1:=(hW.block _ (blk_in q1)).trans q1
  have k2:=(hW.block _ (blk_in q2)).trans q2
  exact m68
 have HYl:=Lib.hid hyl
 clear hlib hcli hcy hyl hbA q0 q1 q2 h1 h2 hy HF1 HF2
 generalize l.length=n at*
 go_enter Tryz.func31,Tryz.ntmps31
 go_upto_region 1 with fail
 try rw[←hwA]
 clear hwA
 obtain ⟨a0,a1,b0,b1,b2,p0,p1,p2,p3⟩:=HY.out wA (Below.refl _ _)
 go_wp2_with fail
 refine (HLib.out _ (Below.refl _ _)).mono ?_
 rintro e w2 ⟨rfl,hb2⟩
 clear a0 a1 b0 b1 b2 p0 p1 p2 p3
 obtain ⟨a0,a1,b0,b1,b2,p0,p1,p2,p3⟩:=HY.out w2 hb2
 have HB2:=Lib.hid hb2
 clear hb2
 go_wp2_with fail
 refine (HCli.out _ HB2.out).mono ?_
 rintro e w3 ⟨v,rfl,hv,hb3⟩
 obtain ⟨vb,rfl⟩: ∃vb,v= .pointer (some vb):=fail_ptr hv
 have HI:=Lib.hid (rin_any kernS 4 hv HYl.out.1 HYl.out.2)
 unfold kernS at HI
 have HB3:=Lib.hid (HB.out.trans ((HB2.out.trans (hb3.mono HB2.out.size)).mono HB.out.size))
 clear hv hb3 a0 a1 b0 b1 b2 p0 p1 p2 p3
 go_wp2_with fail
 refine HI.out.mono ?_
 rintro e w4 ⟨v4,rfl,hv4,hb4⟩
 have HV:=Lib.hid (And.intro hv4 (HB3.out.trans (hb4.mono HB3.out.size)))
 clear hv4 hb4
 go_wp2_with fail
 go_ret2
 exact ⟨v4,rfl,HV.out.1,HV.out.2⟩
end Go.Proofs.YtaangaogmnlljaaGreatDoor.Kn
namespace Go.Proofs.YtaangaogmnlljaaGreatDoor.Kn
open Go.RowKit Asm PosTab
def libF (code:List InsL) (labels:List (Str×Nat)) (prog:List InsL) (wide narrow:Int) (k:Nat):Fixed:={ lib:=code,loop:=loopOf labels,calls:=libCalls labels,code:=prog,wide:=wide,narrow:=narrow,workers:=k}
theorem a103.q18 {P:Prop} (h:P:=by
 have hnew:=knew_any (w:=w3) (cells:=cells) (entry:=entry) HF.out HA.out.1 HA.out.2.1 HA.out.2.2 (by show 0<(libCalls labels).length;rw[calls_len];decide) hc3 hr3 hp3
 change Calls Tryz.prog 28 #[.agg #[.int .i64 (k:Int), .int .i64 (cells:Int)], .agg #[.slice Ac code.length cc, .int .i64 (loopOf labels:Int), .slice Ar 45 cr], .agg #[.slice Ap prog.length cp, .int .i64 entry, .int .i64 wide, .int .i64 narrow]] w3 _ at hnew
 rw[HL.out] at hnew
 have HNew:=Lib.hid hnew
 have HB3:=Lib.hid hB3
 clear hnew hc3 hr3 hp3 z0 z1 z3 hb3 hb23 hB3 hw3
 go_wp2_with fail
 refine HNew.out.mono ?_
 rintro e w4 ⟨G,own',rfl,hk,hb4,ho⟩
 have HK:=Lib.hid hk
 have HB4:=Lib.hid hb4
 have HO:=Lib.hid ho
 generalize hKK:G.K=KK
 clear hk hb4 ho HNew
 go_wp2_with fail
 go_ret2
 refine ⟨G,own',by subst hKK;rfl,HK.out,HB3.out.trans (HB4.out.mono HB3.out.size),fun b hb=>HO.out b (Nat.lt_of_lt_of_le hb HB3.out.size)⟩):P:=h
theorem a103.q23 {P:Prop} (h:P:=by
 have a0:w3.cell? ⟨w.heap.size,0,none⟩=some (.int .i64 (k:Int)):=blk_cell z0 0
 have a1:w3.cell? ⟨w.heap.size,1,none⟩=some (.int .i64 (cells:Int)):=blk_cell z0 1
 exact m18):P:=h
theorem a103.q123 {P:Prop} (h:P:=by
 have HF:=Lib.hid hF
 have HA:=Lib.hid (And.intro he (And.intro hroom hcells))
 clear hp hlab hM hMl hF he hroom hcells hpv l0 l1 hb0
 exact m23):P:=h
open a103 in
set_option maxRecDepth 100000 in
theorem pnew_any {code:List InsL} {labels:List (Str×Nat)} (hp:parseL (linesL textL)=some (code,labels)) (hlab:labels.length≤3000) {w:World} (hM:MaxDoor w) (hMl:1<w.heap.size)
  {prog:List InsL} {wide narrow entry:Int} {k cells:Nat} (hF:FixOk (libF code labels prog wide narrow k)) {pv0:Value} (he:0≤entry∧entry<prog.length) (hroom:(libF code labels prog wide narrow k).base+wide+narrow+1≤cells) (hcells:cells≤65536)
  (hpv:w.ownsRow 0 68 7 pv0 prog.length (codeC prog)):
  Calls Tryz.prog 7 #[.agg #[.int .i64 (k:Int), .int .i64 (cells:Int)], .agg #[pv0, .int .i64 entry, .int .i64 wide, .int .i64 narrow]] w fun e w'=> ∃G own',e= .returned (.tuple #[.pointer (some ⟨G.K,0,none⟩), .nilIface])∧KernP (libF code labels prog wide narrow k) w' own' G (newK (libF code labels prog wide narrow k) cells entry) 3∧Below w.heap.size w w'∧ ∀b,b<w.heap.size→own' b= .other:=by
 obtain ⟨l0,l1,hb0⟩:=laid2 w (.cells #[.int .i64 (k:Int), .int .i64 (cells:Int)] 23) (.cells #[pv0, .int .i64 entry, .int .i64 wide, .int .i64 narrow] 26)
 obtain ⟨wA,hwA⟩: ∃wA,wA=(w.alloc (.cells #[.int .i64 (k:Int), .int .i64 (cells:Int)] 23)).alloc (.cells #[pv0, .int .i64 entry, .int .i64 wide, .int .i64 narrow] 26):=⟨_,rfl⟩
 exact m123
end Go.Proofs.YtaangaogmnlljaaGreatDoor.Kn
namespace Go.Proofs.YtaangaogmnlljaaGreatDoor.Kn
open Go.RowKit Asm PosTab Errs
theorem a104.q18 {P:Prop} (h:P:=by
 have hD3:Door w3:=HA.out.1.below hB3 (door_pos HA.out.1)
 have hli:=HF.out.lib
 have hlibs:=HF.out.libs
 obtain ⟨glv,clv,hlvE,hlvC,hglv⟩:=row_code hc3 hli.1
 have hlib: ∀W,Below w3.heap.size w3 W→Calls Tryz.prog 76 #[.agg #[.slice Ac code.length cc, .int .i64 (loopOf labels:Int), .slice Ar 45 cr]] W fun e w'=>e= .returned .nilIface∧Below W.heap.size W w':=fun W hW=>by
  have e:Ac=some ⟨glv,0,none⟩:=by injection hlvE
  subst e
  exact clib_ok (hlvC.below hglv hW) (Nat.lt_of_lt_of_le hglv hW.size) rfl hli.1 hli.2 hlibs HF.out.loop (calls_len labels).symm (by decide) (ownsRow_of_block (by rw[calls_len] at hr3;exact hr3) fun k hk=>hW.block k (hr3.lt k hk).2) HF.out.nod HF.out.calls
 have hnew:=knew_fails (w:=w3) (kw:=kw) (kc:=kc) hD3 hlib hp3 HA.out.2.1 HA.out.2.2.1 HA.out.2.2.2
 rw[HL.out] at hnew
 have HNew:=Lib.hid hnew
 have HB3:=Lib.hid hB3
 clear hnew hc3 hr3 hp3 z0 z1 z3 hb3 hb23 hB3 hw3 hlib hlvE hlvC hglv hli hlibs hD3
 go_wp2_with fail
 refine HNew.out.mono ?_
 rintro e w4 ⟨v,rfl,hv,hb4⟩
 obtain ⟨vt,vx,rfl⟩:=hv.form
 have HF2:=Lib.hid (posixfail_any 0 w4 hv)
 have HB4:=Lib.hid (HB3.out.trans (hb4.mono HB3.out.size))
 clear hv hb4 HNew
 go_wp2_with fail
 refine HF2.out.mono ?_
 rintro e w5 ⟨v,rfl,hv,hb5⟩
 have HV:=Lib.hid hv
 have HB5:=Lib.hid (HB4.out.trans (hb5.mono HB4.out.size))
 clear hv hb5
 go_wp2_with fail
 go_ret2
 exact ⟨v,rfl,HV.out,HB5.out⟩):P:=h
theorem a104.q23 {P:Prop} (h:P:=by
 have a0:w3.cell? ⟨w.heap.size,0,none⟩=some (.int .i64 kw):=blk_cell z0 0
 have a1:w3.cell? ⟨w.heap.size,1,none⟩=some (.int .i64 kc):=blk_cell z0 1
 exact m18):P:=h
theorem a104.q123 {P:Prop} (h:P:=by
 have HF:=Lib.hid (fix_ok (LibGood.of hp) (prog:= [{ op:=16}]) (by decide) (by decide) (by intro x hx;simp at hx;subst hx;exact ⟨by decide,by unfold U64;decide⟩) (wide:=0) (narrow:=0) (by decide) (k:=1) (by decide))
 have HA:=Lib.hid (And.intro hd (And.intro hnb (And.intro hwb hx)))
 clear hp hlab hM hMl hpv l0 l1 hb0 hd hnb hwb hx
 exact m23):P:=h
open a104 in
set_option maxRecDepth 100000 in
theorem pnew_fails {code:List InsL} {labels:List (Str×Nat)} (hp:parseL (linesL textL)=some (code,labels)) (hlab:labels.length≤3000) {w:World} (hd:Door w) (hM:MaxDoor w) (hMl:1<w.heap.size)
  {prog:List InsL} {wide narrow entry kw kc:Int} {pv0:Value} {x:ErrK} (hnb:prog.length≤9223372036854775807) (hwb: -9223372036854775808≤wide∧wide≤9223372036854775807) (hx:newE kw kc prog entry wide narrow=some x)
  (hpv:w.ownsRow 0 68 7 pv0 prog.length (codeC prog)):
  Calls Tryz.prog 7 #[.agg #[.int .i64 kw, .int .i64 kc], .agg #[pv0, .int .i64 entry, .int .i64 wide, .int .i64 narrow]] w (NewFail w ((posixS,0)::x.1,x.2)):=by
 obtain ⟨l0,l1,hb0⟩:=laid2 w (.cells #[.int .i64 kw, .int .i64 kc] 23) (.cells #[pv0, .int .i64 entry, .int .i64 wide, .int .i64 narrow] 26)
 obtain ⟨wA,hwA⟩: ∃wA,wA=(w.alloc (.cells #[.int .i64 kw, .int .i64 kc] 23)).alloc (.cells #[pv0, .int .i64 entry, .int .i64 wide, .int .i64 narrow] 26):=⟨_,rfl⟩
 exact m123
end Go.Proofs.YtaangaogmnlljaaGreatDoor.Kn
