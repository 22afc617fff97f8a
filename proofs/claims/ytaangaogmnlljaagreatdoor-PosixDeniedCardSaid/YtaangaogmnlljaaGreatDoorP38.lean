/- Part 38 of what the proof stands on: KnPNew, KnPrk, KnLibJ, KnLibT, KnRefA, KnOwn. -/
import Derived.Test.YtaangaogmnlljaaGreatDoorP09
import Derived.Test.YtaangaogmnlljaaGreatDoorP16
import Derived.Test.YtaangaogmnlljaaGreatDoorP25
import Derived.Test.YtaangaogmnlljaaGreatDoorP30
import Derived.Test.YtaangaogmnlljaaGreatDoorP33
import Derived.Test.YtaangaogmnlljaaGreatDoorP34
import Derived.Test.YtaangaogmnlljaaGreatDoorP36
import Derived.Test.YtaangaogmnlljaaGreatDoorP37
set_option linter.unusedVariables false
namespace Go.Proofs.YtaangaogmnlljaaGreatDoor.Kn
open Go.RowKit Asm PosTab
def libF (code:List InsL) (labels:List (Str×Nat)) (prog:List InsL) (wide narrow:Int) (k:Nat):Fixed:={ lib:=code,loop:=loopOf labels,calls:=libCalls labels,code:=prog,wide:=wide,narrow:=narrow,workers:=k}
set_option maxRecDepth 100000 in
set_option maxHeartbeats 4000000 in
theorem pnew_any {code:List InsL} {labels:List (Str×Nat)} (hp:parseL (linesL textL)=some (code,labels)) (hlab:labels.length≤3000) {w:World} (hM:MaxDoor w) (hMl:1<w.heap.size)
  {prog:List InsL} {wide narrow entry:Int} {k cells:Nat} (hF:FixOk (libF code labels prog wide narrow k)) {pv0:Value} (he:0≤entry∧entry<prog.length) (hroom:(libF code labels prog wide narrow k).base+wide+narrow+1≤cells) (hcells:cells≤65536)
  (hpv:w.ownsRow 0 68 7 pv0 prog.length (codeC prog)):
  Calls Tryz.prog 7 #[.agg #[.int .i64 (k:Int), .int .i64 (cells:Int)], .agg #[pv0, .int .i64 entry, .int .i64 wide, .int .i64 narrow]] w fun e w'=> ∃G own',e= .returned (.tuple #[.pointer (some ⟨G.K,0,none⟩), .nilIface])∧KernP (libF code labels prog wide narrow k) w' own' G (newK (libF code labels prog wide narrow k) cells entry) 3∧Below w.heap.size w w'∧ ∀b,b<w.heap.size→own' b= .other:=by
 obtain ⟨l0,l1,hb0⟩:=laid2 w (.cells #[.int .i64 (k:Int), .int .i64 (cells:Int)] 23) (.cells #[pv0, .int .i64 entry, .int .i64 wide, .int .i64 narrow] 26)
 obtain ⟨wA,hwA⟩: ∃wA,wA=(w.alloc (.cells #[.int .i64 (k:Int), .int .i64 (cells:Int)] 23)).alloc (.cells #[pv0, .int .i64 entry, .int .i64 wide, .int .i64 narrow] 26):=⟨_,rfl⟩
 rw[←hwA] at l0 l1 hb0
 obtain ⟨Ap,cp,rfl⟩:=Asm.own_shape hpv
 have HLib:=Lib.hid (lib_any hp hlab wA (hM.below hb0 hMl) (Nat.lt_of_lt_of_le hMl hb0.size))
 have HB0:=Lib.hid hb0
 have L0:=Lib.hid l0
 have L1:=Lib.hid l1
 have HPv:=Lib.hid hpv
 have HF:=Lib.hid hF
 have HA:=Lib.hid (And.intro he (And.intro hroom hcells))
 clear hp hlab hM hMl hF he hroom hcells hpv l0 l1 hb0
 go_enter Tryz.func7,Tryz.ntmps7
 go_wp2_with fail
 try rw[←hwA]
 clear hwA
 refine HLib.out.mono ?_
 rintro e w2 ⟨vc,vr,rfl,hc,hr,hb2⟩
 obtain ⟨Ac,cc,rfl⟩:=Asm.own_shape hc
 obtain ⟨Ar,cr,rfl⟩:=Asm.own_shape hr
 generalize hL:(loopOf labels:Int)=L
 have HL:=Lib.hid hL
 have HC:=Lib.hid hc
 have HR:=Lib.hid hr
 have HB2:=Lib.hid hb2
 clear hL hc hr hb2 HLib
 go_upto_region 2 with fail
 have hb3:Below w2.heap.size w2 (w2.alloc (.cells #[.slice Ac code.length cc, .int .i64 L, .slice Ar 45 cr] 77)):=(Below.refl _ _).alloc (Nat.le_refl _) _
 have z3:=heap_alloc_new w2 (.cells #[.slice Ac code.length cc, .int .i64 L, .slice Ar 45 cr] 77)
 generalize hw3:w2.alloc (.cells #[.slice Ac code.length cc, .int .i64 L, .slice Ar 45 cr] 77)=w3 at*
 have hb23:=HB2.out.trans (hb3.mono HB2.out.size)
 have z0:=(hb23.block _ (blk_in L0.out)).trans L0.out
 have z1:=(hb23.block _ (blk_in L1.out)).trans L1.out
 have hB3:Below w.heap.size w w3:=HB0.out.trans (hb23.mono HB0.out.size)
 have a0:w3.cell? ⟨w.heap.size,0,none⟩=some (.int .i64 (k:Int)):=blk_cell z0 0
 have a1:w3.cell? ⟨w.heap.size,1,none⟩=some (.int .i64 (cells:Int)):=blk_cell z0 1
 have p0:w3.cell? ⟨w.heap.size+1,0,none⟩=some (.slice Ap prog.length cp):=blk_cell z1 0
 have p1:w3.cell? ⟨w.heap.size+1,1,none⟩=some (.int .i64 entry):=blk_cell z1 1
 have p2:w3.cell? ⟨w.heap.size+1,2,none⟩=some (.int .i64 wide):=blk_cell z1 2
 have p3:w3.cell? ⟨w.heap.size+1,3,none⟩=some (.int .i64 narrow):=blk_cell z1 3
 have b0:w3.cell? ⟨w2.heap.size,0,none⟩=some (.slice Ac code.length cc):=blk_cell z3 0
 have b1:w3.cell? ⟨w2.heap.size,1,none⟩=some (.int .i64 L):=blk_cell z3 1
 have b2:w3.cell? ⟨w2.heap.size,2,none⟩=some (.slice Ar 45 cr):=blk_cell z3 2
 have hc3:w3.ownsRow 0 68 7 (.slice Ac code.length cc) code.length (codeC code):=Asm.row_base (ownsRow_of_block HC.out fun b e=>hb3.block b (HC.out.lt b e).2) (Nat.zero_le _)
 have hr3:w3.ownsRow 0 184 6 (.slice Ar 45 cr) (libCalls labels).length (callC (libCalls labels)):=by
  rw[calls_len,calls_rows]
  exact Asm.row_base (ownsRow_of_block HR.out fun b e=>hb3.block b (HR.out.lt b e).2) (Nat.zero_le _)
 have hp3:w3.ownsRow 0 68 7 (.slice Ap prog.length cp) prog.length (codeC prog):=ownsRow_of_block HPv.out fun b e=>hB3.block b (HPv.out.lt b e).2
 have hnew:=knew_any (w:=w3) (cells:=cells) (entry:=entry) HF.out HA.out.1 HA.out.2.1 HA.out.2.2 (by show 0<(libCalls labels).length;rw[calls_len];decide) hc3 hr3 hp3
 change Calls Tryz.prog 28 #[.agg #[.int .i64 (k:Int), .int .i64 (cells:Int)], .agg #[.slice Ac code.length cc, .int .i64 (loopOf labels:Int), .slice Ar 45 cr], .agg #[.slice Ap prog.length cp, .int .i64 entry, .int .i64 wide, .int .i64 narrow]] w3 _ at hnew
 rw[HL.out] at hnew
 have HNew:=Lib.hid hnew
 have HB3:=Lib.hid hB3
 clear hnew hc3 hr3 hp3 z0 z1 z3 hb3 hb23 hB3 hw3
 go_wp2_with fail
 refine HNew.out.mono ?_
 rintro e w4 ⟨G,own',rfl,hk,hb4,ho⟩
 have HK:=Lib.hid hk
 have HB4:=Lib.hid hb4
 have HO:=Lib.hid ho
 generalize hKK:G.K=KK
 clear hk hb4 ho HNew
 go_wp2_with fail
 go_ret2
 refine ⟨G,own',by subst hKK;rfl,HK.out,HB3.out.trans (HB4.out.mono HB3.out.size),fun b hb=>HO.out b (Nat.lt_of_lt_of_le hb HB3.out.size)⟩
end Go.Proofs.YtaangaogmnlljaaGreatDoor.Kn
namespace Go.Proofs.YtaangaogmnlljaaGreatDoor.Kn
open Go.RowKit Asm
section
variable {F:Fixed} {w:World} {own:Own} {G:KG} {M:Mach} {n:Nat}
theorem KernP.park (h:KernP F w own G M n) {i:Nat} (hi:i<F.workers) (p:Bool):KO F w own G (setW M i { wkrOf M i with parked:=p}) n (w.setCell ⟨G.gW,i*38+2,none⟩ (.bool p)):=by
 have hk:=h.wk_ok hi
 have hp:=h.wk_put hi (j:=2) (by decide) (v:= .bool p) (k':={ wkrOf M i with parked:=p}) rfl rfl hk.slot hk.hand hk.left
 exact ⟨own,hp.1,hp.2.mono fun t e=>by rw[e];nofun⟩
theorem KernP.reg_far (h:KernP F w own G M n) {i:Nat} (hi:i<F.workers) {t:Option Int} {b o:Nat} (fa:FAt G M i t b o) (k j:Nat) (hj:j<4):(⟨b,o+1+k,none⟩:Addr)≠⟨G.gW,i*38+j,none⟩:=by
 cases t with
 |none=>
  obtain ⟨rfl,rfl⟩:=fa
  intro e
  injection e with _ e _
  omega
 |some id=>
  obtain ⟨r,hr,hne,rfl,rfl⟩:=fa
  intro e
  injection e with e _ _
  obtain ⟨bv,h1,-⟩:=h.frame_run hr (top_get hne)
  have:=h1.mine
  rw[e,h.wk.1] at this
  cases this
set_option maxRecDepth 100000 in
set_option maxHeartbeats 8000000 in
theorem special_36 (h:KernP F w own G M n) {i:Nat} (hi:i<F.workers) {t:Option Int} {b o:Nat} (fa:FAt G M i t b o) (x:InsL) (hm:mayK x F.lib.length true=true) (ho:x.op=36):
  Calls Tryz.prog 194 #[.pointer (some ⟨G.K,0,none⟩), .pointer (some ⟨G.gW,i*38,none⟩),tptr G t, .pointer (some ⟨b,o,none⟩), .agg (insV x)] w (SpOut F w own G M n (special F M i t x)):=by
 rw[sp_36 F M i t x ho]
 obtain ⟨ha,-⟩:=may_regs hm
 obtain ⟨k,hk⟩:=Int.eq_ofNat_of_zero_le ha.1
 have hk2:k<32:=by omega
 have hkI:(0:Int)≤(k:Int)∧(k:Int)<32:=by omega
 obtain ⟨own1,h1,t1⟩:=h.inB x
 have hz:(Kn.boxed w x).heap[w.heap.size]?=some (.cells (insV x) 68 (0,0)):=heap_alloc_new w _
 have HBx:BoxAt (Kn.boxed w x) (ext own w.heap.size .other) w.heap.size (insV x) 68:=⟨hz,ext_tag (Or.inr (Nat.le_refl _))⟩
 clear h1 t1
 have h1:=h.below (boxed_below w x)
 have t1:Touch (fun t=>t≠ .other) w (Kn.boxed w x) own (ext own w.heap.size .other):=touch_below (boxed_below w x)
 obtain ⟨hr1,hru,-,-⟩:=h1.reg (t:=t) hi (by exact fa) k hk2
 have hfar:=h1.reg_far (t:=t) hi (by exact fa) k 2 (by decide)
 have HPk:=peek_any (h1.drew) 0 u64_0
 unfold Kn.boxed at*
 obtain ⟨xo,xa,xb,xc,xv,xm,xw⟩:=x
 unfold insV at*
 simp only at ho hk hz HPk h1 t1 HBx hr1 ⊢
 subst ho hk
 have HRa:Hid (rg (getF M i t) k=rg (getF M i t) k):=Lib.hid rfl
 have HReg:Hid (∀W own',KernP F W own' G M n→W.cell? ⟨b,o+1+k,none⟩=some (.int .u64 (rg (getF M i t) k))):=Lib.hid fun W own' h'=>(h'.reg (t:=t) hi (by exact fa) k hk2).1
 generalize rg (getF M i t) k=ra at*
 generalize peekM M.mem 0=pk at*
 generalize hw1:w.alloc (.cells #[.int .i64 36, .int .i64 k, .int .i64 xb, .int .i64 xc, .int .u64 xv, .int .i64 xm, .int .i64 xw] 68)=w1 at*
 generalize hbx:w.heap.size=bx at*
 generalize ext own bx .other=own1 at*
 have HI:=Lib.hid hi
 have HT1:=Lib.hid t1
 have HFr:Hid (∀(W:World) (v:Value),W.cell? ⟨bx,1,none⟩=some (.int .i64 k)∧W.cell? ⟨b,o+1+k,none⟩=some (.int .u64 ra)→(W.setCell ⟨G.gW,i*38+2,none⟩ v).cell? ⟨bx,1,none⟩=some (.int .i64 k)∧(W.setCell ⟨G.gW,i*38+2,none⟩ v).cell? ⟨b,o+1+k,none⟩=some (.int .u64 ra)):=Lib.hid fun W v ⟨e1,e2⟩=>by
  have n1:(⟨G.gW,i*38+2,none⟩:Addr)≠⟨bx,1,none⟩:=fun e=>by
   injection e with e _ _
   have:=HBx.2
   rw[←e,h1.wk.1] at this
   cases this
  have n2:(⟨G.gW,i*38+2,none⟩:Addr)≠⟨b,o+1+k,none⟩:=fun e=>hfar e.symm
  have q1:(W.setCell ⟨G.gW,i*38+2,none⟩ v).cell? ⟨bx,1,none⟩=W.cell? ⟨bx,1,none⟩:=by
   first|exact World.cell?_setCell_other n1|exact World.cell?_setCell_other _ _ _ n1|exact World.cell?_setCell_other _ _ _ _ n1
  have q2:(W.setCell ⟨G.gW,i*38+2,none⟩ v).cell? ⟨b,o+1+k,none⟩=W.cell? ⟨b,o+1+k,none⟩:=by
   first|exact World.cell?_setCell_other n2|exact World.cell?_setCell_other _ _ _ n2|exact World.cell?_setCell_other _ _ _ _ n2
  exact ⟨q1.trans e1,q2.trans e2⟩
 have HP:Hid (Calls Tryz.prog 121 #[.pointer (some ⟨G.K,0,none⟩), .int .u64 0] w1.drew fun e w'=>e= .returned (.int .u64 pk)∧(∃own5,KernP F w' own5 G M n∧Touch (fun t=>t≠ .other) w1 w' own1 own5)∧(w'.cell? ⟨bx,1,none⟩=some (.int .i64 k)∧w'.cell? ⟨b,o+1+k,none⟩=some (.int .u64 ra))∧w'.frozen? ⟨G.gW,i*38+2,none⟩=false∧ ∃u,w'.cell? ⟨G.gW,i*38+2,none⟩=some u):=Lib.hid (HPk.mono fun e w' ⟨a,own5,h5,t5⟩=>by
  obtain ⟨-,-,q2,-,q3⟩:=h5.wk_cells hi
  exact ⟨a,⟨own5,h5,(touch_drew w1 own1).trans t5⟩,⟨(BoxAt.move (w:=w1.drew) HBx t5).cells.2 1,HReg.out _ _ h5⟩,q3 _,_,q2⟩)
 have z1:=blk_cell hz 1
 have z0:=blk_cell hz 0
 have H1:=Lib.hid h1
 have HFin:Hid (∀(W:World) own5 (p:Bool),KernP F W own5 G M n→Touch (fun t=>t≠ .other) w1 W own1 own5→KO2 F w own G M.runs (setW M i { wkrOf M i with parked:=p}) (n+2) (W.setCell ⟨G.gW,i*38+2,none⟩ (.bool p))):=Lib.hid fun W own5 p h5 t5=>((KO.trans (HT1.out.trans t5) (h5.park HI.out p)).more (by omega)).two
 clear h h1 t1 hz HBx hm ha fa hfar HPk hru
 by_cases he:pk=ra
 ·have he2:(pk==ra)=true:=beq_iff_eq.2 he
  have HE:=Lib.hid he
  rw[if_pos he]
  clear he
  go_enter Tryz.func194,Tryz.ntmps194
  go_wp2_with fail
  try rw[hw1]
  try clear hw1 hbx
  go_region_held3 (fun W=>W.cell? ⟨bx,1,none⟩=some (.int .i64 k)∧W.cell? ⟨b,o+1+k,none⟩=some (.int .u64 ra)) (first|with_reducible assumption|with_reducible exact ⟨z1,hr1⟩ |exact ⟨z1,hr1⟩ |with_reducible exact ⟨y1,y2⟩ |with_reducible exact HFr.out _ _ ⟨y1,y2⟩)
   (first|(go_at_call 121;refine HP.out.mono ?_;rintro e w5 ⟨rfl,⟨own5,h5,t5⟩,⟨y1,y2⟩,y3,⟨yu,y4⟩⟩))
  have HQ:=Lib.hid (HFin.out w5 own5 true h5 t5)
  clear h5 t5 y1 y2
  go_wp2_with fail
  go_ret
  exact ⟨rfl,HQ.out⟩
 ·have he2:(pk==ra)=false:=beq_eq_false_iff_ne.2 he
  rw[if_neg he]
  clear he
  go_enter Tryz.func194,Tryz.ntmps194
  go_wp2_with fail
  try rw[hw1]
  try clear hw1 hbx
  go_region_held3 (fun W=>W.cell? ⟨bx,1,none⟩=some (.int .i64 k)∧W.cell? ⟨b,o+1+k,none⟩=some (.int .u64 ra)) (first|with_reducible assumption|with_reducible exact ⟨z1,hr1⟩ |exact ⟨z1,hr1⟩ |with_reducible exact ⟨y1,y2⟩ |with_reducible exact HFr.out _ _ ⟨y1,y2⟩)
   (first|(go_at_call 121;refine HP.out.mono ?_;rintro e w5 ⟨rfl,⟨own5,h5,t5⟩,⟨y1,y2⟩,y3,⟨yu,y4⟩⟩))
  have HQ:=Lib.hid (HFin.out w5 own5 false h5 t5)
  clear h5 t5 y1 y2
  go_wp2_with fail
  go_ret
  exact ⟨rfl,HQ.out⟩
end
end Go.Proofs.YtaangaogmnlljaaGreatDoor.Kn
namespace Go.Proofs.YtaangaogmnlljaaGreatDoor.Kn
open Go.RowKit Asm
theorem step_ins {f:Frame} {l:List InsL} {m:Mem} (hm: ∀x∈l,mayK x l.length true=true) (h:(stepL f l m).how≠3): ∃x,insAt l f.pc=some x∧x∈l∧mayK x l.length true=true:=by
 have hr:=runs_ins hm f.pc
 unfold stepL at h
 rw[hr] at h
 cases e:insAt l f.pc with
 |none=>rw[e] at h;exact absurd rfl h
 |some x=>
  have hx:x∈l:=by
   unfold insAt at e
   split at e
   ·cases e
   ·exact List.mem_of_getElem? e
  exact ⟨x,rfl,hx,hm x hx⟩
section
variable {F:Fixed} {w:World} {own:Own} {G:KG} {M:Mach} {n:Nat}
theorem mark_zero (M:Mach) (id:Int) (f:Frame) {x:InsL} (h:x.m=0):markK M id f x=M:=by
 unfold markK;simp only[if_pos h]
theorem mark_any (h:KernP F w own G M n) {i:Nat} (hi:i<F.workers) {t:Option Int} {b o:Nat} (fa:FAt G M i t b o) (id:Int) (x:InsL) {l:Int} (hx:mayK x l true=true) (hf:M.out.length<1000000):
  Calls Tryz.prog 195 #[.pointer (some ⟨G.K,0,none⟩), .int .u64 id, .pointer (some ⟨b,o,none⟩), .agg (insV x)] w fun rr w'=>rr= .returned (.tuple #[])∧KO F w own G (markK M id (getF M i t) x) n w':=by
 obtain ⟨hO,-,-,-,-,-,-,-,hw,-⟩:=may_parts hx
 by_cases h0:x.m=0
 ·rw[mark_zero M id _ h0]
  exact mark_none h id b o x h0
 ·have hA:0≤x.a∧x.a<32:=by
   obtain ⟨_,_,_,hA,_⟩:=may_parts hx
   unfold regOk at hA
   split at hA
   ·simp at hA;omega
   ·simp at hA;omega
  exact mark_some h hi fa id x h0 hO hA hw hf
theorem SpOut.at {W:World} {p:Int×Mach} {e:Ending} {w':World} (h:SpOut F W own G M n p e w'):e= .returned (.int .i64 p.1)∧ ∃tb fb own',GAgree G tb fb M.runs∧KernP F w' own' { G with tb:=tb,fb:=fb} p.2 (n+2)∧Touch (fun t=>t≠ .other) W w' own own':=by
 obtain ⟨a,tb,fb,hg,own',h1,t1⟩:=h
 exact ⟨a,tb,fb,own',hg,h1,t1⟩
end
end Go.Proofs.YtaangaogmnlljaaGreatDoor.Kn
namespace Go.Proofs.YtaangaogmnlljaaGreatDoor.Kn
open Go.RowKit Asm
section
variable {F:Fixed} {w:World} {own:Own} {G:KG} {M:Mach} {n:Nat}
theorem KO.boxed {w1:World} (h:KO F w own G M n w1) (x:InsL): ∃own1,KernP F (Kn.boxed w1 x) own1 G M n∧Touch (fun t=>t≠ .other) w (Kn.boxed w1 x) own own1∧BoxAt (Kn.boxed w1 x) own1 w1.heap.size (insV x) 68:=by
 obtain ⟨own1,h1,t1⟩:=h
 exact ⟨_,h1.below (boxed_below w1 x),t1.trans (touch_below (boxed_below w1 x)),heap_alloc_new w1 _,ext_tag (Or.inr (Nat.le_refl _))⟩
theorem BoxAt.drew {b:Nat} {cs:Array Value} {t:TypeId} (h:BoxAt w own b cs t):BoxAt w.drew own b cs t:=h
theorem BoxAt.seven {b:Nat} {x:InsL} {t:TypeId} (h:BoxAt w own b (insV x) t):Box7 w b x:=InsBox.of h.1
theorem lib_eq0 {i:Nat} {t:Option Int} (h:(stepL (getF M i t) F.lib M.mem).how=0):library F M i t=(0,markK (setF { M with mem:=(stepL (getF M i t) F.lib M.mem).mem} i t (stepL (getF M i t) F.lib M.mem).f) (t.getD 0) (stepL (getF M i t) F.lib M.mem).f ((insAt F.lib (getF M i t).pc).getD insZ)):=by
 unfold library
 simp only[h,if_true]
 rfl
theorem lib_away {i:Nat} {t:Option Int} {x:InsL} (h1:(stepL (getF M i t) F.lib M.mem).how=1) (hx:insAt F.lib (getF M i t).pc=some x) (h57:x.op≠57):library F M i t=if (special F M i t x).1=0 then (0,markK (bumpF (special F M i t x).2 i t) (t.getD 0) (getF (bumpF (special F M i t x).2 i t) i t) x) else if (special F M i t x).1=1 then (1,(special F M i t x).2) else (3,(special F M i t x).2):=by
 have hx0:(insAt F.lib (getF M i t).pc).getD ⟨0,0,0,0,0,0,0⟩=x:=by rw[hx];rfl
 unfold library
 simp only[h1,hx0,if_neg h57,Int.reduceEq,if_false,if_true]
theorem FAt.sp {tb:Int→Nat} {fb:Int→Nat→Nat} {i:Nat} {t:Option Int} {b o:Nat} (fa:FAt G M i t b o) (hg:GAgree G tb fb M.runs) {M':Mach} (hs:RunsSame M M'):FAt { G with tb:=tb,fb:=fb} M' i t b o:=by
 have fa2:=fa.grow hg
 cases t with
 |none=>exact fa2
 |some id=>
  obtain ⟨r,h1,h2,h3,h4⟩:=fa2
  obtain ⟨r',k1,k2⟩:=hs id r h1 h2
  exact ⟨r',k1,fun e=>h2 (by rw[←List.length_eq_zero_iff,←k2,e];rfl),by rw[k2];exact h3,h4⟩
end
end Go.Proofs.YtaangaogmnlljaaGreatDoor.Kn
namespace Go.Proofs.YtaangaogmnlljaaGreatDoor.Kn
open Go.RowKit Asm
theorem rowIx_none {l:List RowL} {num:Int} (h:rowOf l num=none):rowIx l num=0:=by
 unfold rowIx
 have:l.findIdx? (fun r=>r.num==num)=none:=by
  rw[List.findIdx?_eq_none_iff]
  intro x hx
  have:=List.find?_eq_none.1 h x hx
  simpa using this
 rw[this]
theorem rowIx_some {l:List RowL} {num:Int} {x:RowL} (h:rowOf l num=some x): ∃p,rowIx l num=p+1∧l[p]?=some x:=by
 unfold rowIx
 cases e:l.findIdx? (fun r=>r.num==num) with
 |none=>
  rw[List.findIdx?_eq_none_iff] at e
  have h1:=List.mem_of_find?_eq_some h
  have h2:=List.find?_some h
  rw[e x h1] at h2
  cases h2
 |some p=>
  refine ⟨p,rfl,?_⟩
  unfold rowOf at h
  rw[List.find?_eq_some_iff_getElem] at h
  obtain ⟨hx,i,hi,rfl,hlt⟩:=h
  rw[List.findIdx?_eq_some_iff_getElem] at e
  obtain ⟨hp,h1,h2⟩:=e
  have:p=i:=by
   rcases Nat.lt_trichotomy p i with q|q|q
   ·have:=hlt p q
    simp only[h1] at this
    cases this
   ·exact q
   ·have:=h2 i q
    exact absurd hx this
  subst this
  exact List.getElem?_eq_getElem hp
section
variable {F:Fixed} {w:World} {own:Own} {G:KG} {M:Mach} {n:Nat}
theorem PRow.rowAt {own:Own} {tg:Tag} {v:Value} {l:List RowL} (h:PRow w own tg 184 6 v l.length (callC l)) {p:Nat} {x:RowL} (hp:l[p]?=some x): ∃g c,v= .slice (some ⟨g,0,none⟩) l.length c∧(∀j,j<6→w.cell? ⟨g,p*6+j,none⟩=(row6 x)[j]?)∧own g=tg∧g<w.heap.size:=by
 have hlt:=(List.getElem?_eq_some_iff.1 hp).1
 have hx:=(List.getElem?_eq_some_iff.1 hp).2
 have h0:=h.1
 obtain ⟨h1,⟨h2,h3⟩ |⟨g,cap,cur,rfl,hg,r⟩⟩:=h0
 ·omega
 ·refine ⟨g,cap,rfl,fun j hj=>?_,h.2 g rfl,h.lt rfl⟩
  have e1:(callC l)[p*6+j]?=(row6 x)[j]?:=by
   have:=flL_at (k:=6) (f:=row6) (fun _=>rfl) l p hlt j hj
   rw[hx] at this
   exact this
  obtain ⟨u,hu⟩: ∃u,(row6 x)[j]?=some u:=⟨(row6 x)[j]'(by show j<6;exact hj),List.getElem?_eq_getElem _⟩
  rw[hu] at e1 ⊢
  have:=h.1.cells rfl _ _ e1
  rwa[Addr.add_lit,Nat.zero_add] at this
end
end Go.Proofs.YtaangaogmnlljaaGreatDoor.Kn
namespace Go.Proofs.YtaangaogmnlljaaGreatDoor.Kn
open Go.RowKit Asm
section
variable {F:Fixed} {w:World} {own:Own} {G:KG} {M:Mach} {n:Nat}
def ownK (F:Fixed) (M:Mach) (i:Nat):Mach:=let p:=library F (setW M i { wkrOf M i with parked:=false}) i none;if p.1=2∨p.1=3 then again F p.2 i else p.2
end
end Go.Proofs.YtaangaogmnlljaaGreatDoor.Kn
