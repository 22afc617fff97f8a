/- Part 41 of what the proof stands on: KnCallN, KnCallS, KnCallA, KnExJ, KnClJ, KnPickW, KnMini, KnDenD, KnDenL. -/
import Derived.StillTailTactics
import Derived.Test.YtaangaogmnlljaaGreatDoorP02
import Derived.Test.YtaangaogmnlljaaGreatDoorP09
import Derived.Test.YtaangaogmnlljaaGreatDoorP15
import Derived.Test.YtaangaogmnlljaaGreatDoorP16
import Derived.Test.YtaangaogmnlljaaGreatDoorP30
import Derived.Test.YtaangaogmnlljaaGreatDoorP33
import Derived.Test.YtaangaogmnlljaaGreatDoorP35
import Derived.Test.YtaangaogmnlljaaGreatDoorP38
import Derived.Test.YtaangaogmnlljaaGreatDoorP39
import Derived.Test.YtaangaogmnlljaaGreatDoorP40
set_option linter.unusedVariables false
namespace Go.Proofs.YtaangaogmnlljaaGreatDoor.Kn
open Go.RowKit Asm
section
variable {F:Fixed} {w:World} {own:Own} {G:KG} {M:Mach} {n:Nat}
def evCall (id num a0 a1 a2 a3:Int):Ev:={ kind:=1,t:=id,num:=num,a0:=a0,a1:=a1,a2:=a2,a3:=a3}
theorem refused_u64 (M:Mach) (r:Run) (num a0 a1 a2 a3:Int):U64 (refused F M r num a0 a1 a2 a3):=by
 unfold refused
 split
 ·exact ⟨by decide,by decide⟩
 ·split
  ·exact ⟨by decide,by decide⟩
  ·split<;>exact ⟨by decide,by decide⟩
set_option maxRecDepth 100000 in
set_option maxHeartbeats 16000000 in
theorem call_no (h:KernP F w own G M n) {i:Nat} (hi:i<F.workers) {id:Int} {b:Nat} {r:Run} (hr:runOf M.runs id=some r) (hne:r.l≠ []) (fa:FAt G M i (some id) b 0) (num:Int) (hnum:0≤num∧num<1000) (hout:M.out.length<999990) {a0 a1 a2 a3:Int}
  (e0:rg (getF M i (some id)) 0=a0) (e1:rg (getF M i (some id)) 1=a1) (e2:rg (getF M i (some id)) 2=a2) (e3:rg (getF M i (some id)) 3=a3) (hc:refused F M r num a0 a1 a2 a3≠0):
  Calls Tryz.prog 199 #[.pointer (some ⟨G.K,0,none⟩), .pointer (some ⟨G.tb id,0,none⟩), .pointer (some ⟨b,0,none⟩), .int .i64 num] w fun e w'=>e= .returned (.tuple #[])∧KO F w own G (returned (tell M (evCall id num a0 a1 a2 a3)) id num (refused F M r num a0 a1 a2 a3) 0) n w':=by
 obtain ⟨s0,v0,-,-⟩:=h.reg hi fa 0 (by decide)
 obtain ⟨s1,v1,-,-⟩:=h.reg hi fa 1 (by decide)
 obtain ⟨s2,v2,-,-⟩:=h.reg hi fa 2 (by decide)
 obtain ⟨s3,v3,-,-⟩:=h.reg hi fa 3 (by decide)
 have r0:w.cell? ⟨b,1,none⟩=some (.int .u64 a0):=by rw[←e0];simpa using s0
 have r1:w.cell? ⟨b,2,none⟩=some (.int .u64 a1):=by rw[←e1];simpa using s1
 have r2:w.cell? ⟨b,3,none⟩=some (.int .u64 a2):=by rw[←e2];simpa using s2
 have r3:w.cell? ⟨b,4,none⟩=some (.int .u64 a3):=by rw[←e3];simpa using s3
 have u0:U64 a0:=by rw[←e0];exact v0
 have u1:U64 a1:=by rw[←e1];exact v1
 have u2:U64 a2:=by rw[←e2];exact v2
 have u3:U64 a3:=by rw[←e3];exact v3
 clear s0 s1 s2 s3 v0 v1 v2 v3
 have harr: ∀(W:World) (a:Option Addr),(Instr.arrayAt 69 (.slice a 4 32)).run Tryz.prog W= .ok (.pointer a) W:=fun W a=>by kernel_rfl
 obtain ⟨w1,hw1⟩: ∃w1,w1=w.alloc (.cells #[.int .u64 a0, .int .u64 a1, .int .u64 a2, .int .u64 a3] 69):=⟨_,rfl⟩
 have l3:Below w.heap.size w w1:=by rw[hw1];exact below_al (Below.refl _ _) _
 have l1:w1.heap[w.heap.size]?=some (.cells #[.int .u64 a0, .int .u64 a1, .int .u64 a2, .int .u64 a3] 69 (0,0)):=by rw[hw1];exact heap_alloc_new w _
 have h1:=h.below l3
 have t1:Touch (fun t=>t≠ .other) w w1 own (ext own w.heap.size .other):=touch_below l3
 have B1:BoxAt w1 (ext own w.heap.size .other) w.heap.size #[.int .u64 a0, .int .u64 a1, .int .u64 a2, .int .u64 a3] 69:=⟨l1,ext_tag (Or.inr (Nat.le_refl _))⟩
 generalize ext own w.heap.size .other=own1 at h1 t1 B1
 have H1:=Lib.hid h1
 have HT1:=Lib.hid t1
 have HB1:=Lib.hid B1
 have HTl:Hid (Calls Tryz.prog 127 #[.pointer (some ⟨G.K,0,none⟩), .agg #[.int .i64 1, .int .i64 0, .int .i64 0, .int .u64 id, .int .i64 num, .int .u64 a0, .int .u64 a1, .int .u64 a2, .int .u64 a3, .int .u64 0, .int .u64 0]] w1.drew fun e W=>e= .returned (.tuple #[])∧KO F w1.drew own1 G (tell M (evCall id num a0 a1 a2 a3)) n W):=Lib.hid (tell_any h1.drew (evCall id num a0 a1 a2 a3) (by omega))
 have HRf:Hid (∀W o,KernP F W o G (tell M (evCall id num a0 a1 a2 a3)) n→Calls Tryz.prog 255 #[.pointer (some ⟨G.K,0,none⟩), .pointer (some ⟨G.tb id,0,none⟩), .int .i64 num, .agg #[.int .u64 a0, .int .u64 a1, .int .u64 a2, .int .u64 a3]] W fun e w'=>e= .returned (.int .u64 (refused F M r num a0 a1 a2 a3))∧KO F W o G (tell M (evCall id num a0 a1 a2 a3)) n w'):=Lib.hid fun W o q=>refused_any (M:=tell M (evCall id num a0 a1 a2 a3)) q hr num hnum a0 a1 a2 a3 u0 u1 u2 u3
 have ct:w1.cell? ⟨G.tb id,0,none⟩=some (.int .u64 id):=(h1.thr_cells hr).1
 have x0:w1.cell? ⟨w.heap.size,0,none⟩=some (.int .u64 a0):=B1.cells.2 0
 have x1:w1.cell? ⟨w.heap.size,1,none⟩=some (.int .u64 a1):=B1.cells.2 1
 have x2:w1.cell? ⟨w.heap.size,2,none⟩=some (.int .u64 a2):=B1.cells.2 2
 have x3:w1.cell? ⟨w.heap.size,3,none⟩=some (.int .u64 a3):=B1.cells.2 3
 have HRt:Hid (∀W o,KernP F W o G (tell M (evCall id num a0 a1 a2 a3)) n→Calls Tryz.prog 247 #[.pointer (some ⟨G.K,0,none⟩), .pointer (some ⟨G.tb id,0,none⟩), .int .i64 num, .int .u64 (refused F M r num a0 a1 a2 a3), .int .u64 0] W fun e w'=>e= .returned (.tuple #[])∧KO F W o G (returned (tell M (evCall id num a0 a1 a2 a3)) id num (refused F M r num a0 a1 a2 a3) 0) n w'):=Lib.hid fun W o q=>returned_any (M:=tell M (evCall id num a0 a1 a2 a3)) q hr hne num _ 0 (refused_u64 M r num a0 a1 a2 a3) ⟨by decide,by decide⟩ (by show (M.out++ [_]).length<_;rw[List.length_append];simp;omega)
 have hcb:(refused F M r num a0 a1 a2 a3==0)=false:=beq_eq_false_iff_ne.2 hc
 generalize refused F M r num a0 a1 a2 a3=c at*
 clear h h1 t1 B1 l1 l3 u0 u1 u2 u3 e0 e1 e2 e3 fa hr hne hout
 go_enter Tryz.func199,Tryz.ntmps199
 go_wp2_with fail
 try rw[←hw1]
 clear hw1
 generalize w.heap.size=bx at*
 go_still_tail 8,(by kernel_rfl)
 change wpList _ _ _ _ _ w1.drew
 go_wp2_with fail
 refine HTl.out.mono ?_
 rintro e w2 ⟨rfl,own2,h2,t2⟩
 have B2:=BoxAt.move (w:=w1.drew) HB1.out t2
 have H2:=Lib.hid h2
 have HT2:=Lib.hid ((HT1.out.trans (touch_drew w1 own1)).trans t2)
 have HB2:=Lib.hid B2
 have y0:w2.cell? ⟨bx,0,none⟩=some (.int .u64 a0):=B2.cells.2 0
 have y1:w2.cell? ⟨bx,1,none⟩=some (.int .u64 a1):=B2.cells.2 1
 have y2:w2.cell? ⟨bx,2,none⟩=some (.int .u64 a2):=B2.cells.2 2
 have y3:w2.cell? ⟨bx,3,none⟩=some (.int .u64 a3):=B2.cells.2 3
 clear h2 t2 B2 x0 x1 x2 x3 ct H1 HT1 HB1 HTl r0 r1 r2 r3
 go_wp2_with fail
 refine (HRf.out _ _ H2.out).mono ?_
 rintro e w3 ⟨rfl,own3,h3,t3⟩
 have H3:=Lib.hid h3
 have HT3:=Lib.hid (HT2.out.trans t3)
 have HB3:=Lib.hid (HB2.out.move t3)
 clear h3 t3 y0 y1 y2 y3 H2 HT2 HB2 HRf
 go_wp2_with fail
 refine (HRt.out _ _ H3.out).mono ?_
 rintro e w4 ⟨rfl,hk⟩
 have HK:=Lib.hid (KO.trans HT3.out hk)
 clear hk
 go_wp2_with fail
 exact bodyPost_ret (results_none rfl _ _ _) rfl ⟨rfl,HK.out⟩
end
end Go.Proofs.YtaangaogmnlljaaGreatDoor.Kn
namespace Go.Proofs.YtaangaogmnlljaaGreatDoor.Kn
open Go.RowKit Asm
def CSt (F:Fixed) (w:World) (own:Own) (G:KG) (M:Mach) (n nb bx:Nat) (A:Array Value) (FR:Array Value) (wz W:World):Prop:= ∃o,KernP F W o G M n∧Touch (fun t=>t≠ .other) w W own o∧BoxAt W o nb FR 284∧BoxAt W o bx A 69∧Below nb wz W
section
variable {F:Fixed} {w wz W:World} {own:Own} {G:KG} {M:Mach} {n nb bx:Nat} {A FR:Array Value}
theorem CSt.drew (h:CSt F w own G M n nb bx A FR wz W):CSt F w own G M n nb bx A FR wz W.drew:=by
 obtain ⟨o,h1,h2,h3,h4,h5⟩:=h
 exact ⟨o,h1.drew,h2.trans (touch_drew W o),h3,h4,h5.drew⟩
theorem CSt.below (h:CSt F w own G M n nb bx A FR wz W) {W':World} (hb:Below W.heap.size W W'):CSt F w own G M n nb bx A FR wz W':=by
 obtain ⟨o,h1,h2,h3,h4,h5⟩:=h
 have t:=touch_below (ts:=fun t=>t≠ .other) (t:= .other) (own:=o) hb
 exact ⟨_,h1.below hb,h2.trans t,h3.move t,h4.move t,h5.trans (hb.mono (Nat.le_of_lt (blk_in h3.1)))⟩
theorem CSt.put (h:CSt F w own G M n nb bx A FR wz W) (hn:w.heap.size≤nb) (hne:nb≠bx) (k:Nat) (v:Value):CSt F w own G M n nb bx A (FR.setIfInBounds k v) wz (W.setCell ⟨nb,k,none⟩ v):=by
 obtain ⟨o,h1,h2,h3,h4,h5⟩:=h
 have K8:Keeps (fun j=>j=nb) W (W.setCell ⟨nb,k,none⟩ v):=(Keeps.refl (fun j=>j=nb) W).setCell (p:=⟨nb,k,none⟩) rfl _
 exact ⟨o,h1.boxed K8 h3.2,h2.boxed K8 hn,h3.put v,h4.far (fun e=>hne e.symm) v,h5.setCell (p:=⟨nb,k,none⟩) (Nat.le_refl _) v⟩
end
def kvs (F:Fixed) (M:Mach) (x:RowL) (a0 a1 a2 a3 v0 v1 v2 v3:Int) (i:Nat):Prop:=v0=(if 0<i then kindV F M x.k0 a0 else a0)∧v1=(if 1<i then kindV F M x.k1 a1 else a1)∧v2=(if 2<i then kindV F M x.k2 a2 else a2)∧v3=(if 3<i then kindV F M x.k3 a3 else a3)
section
variable {F:Fixed} {M:Mach} {x:RowL} {a0 a1 a2 a3 v0 v1 v2 v3 v:Int}
theorem kvs.s0 (h:kvs F M x a0 a1 a2 a3 v0 v1 v2 v3 0) (e:v=kindV F M x.k0 a0):kvs F M x a0 a1 a2 a3 v v1 v2 v3 1:=⟨e,h.2.1,h.2.2.1,h.2.2.2⟩
theorem kvs.s1 (h:kvs F M x a0 a1 a2 a3 v0 v1 v2 v3 1) (e:v=kindV F M x.k1 a1):kvs F M x a0 a1 a2 a3 v0 v v2 v3 2:=⟨h.1,e,h.2.2.1,h.2.2.2⟩
theorem kvs.s2 (h:kvs F M x a0 a1 a2 a3 v0 v1 v2 v3 2) (e:v=kindV F M x.k2 a2):kvs F M x a0 a1 a2 a3 v0 v1 v v3 3:=⟨h.1,h.2.1,e,h.2.2.2⟩
theorem kvs.s3 (h:kvs F M x a0 a1 a2 a3 v0 v1 v2 v3 3) (e:v=kindV F M x.k3 a3):kvs F M x a0 a1 a2 a3 v0 v1 v2 v 4:=⟨h.1,h.2.1,h.2.2.1,e⟩
theorem kvs.n0 (h:kvs F M x a0 a1 a2 a3 v0 v1 v2 v3 0) (e:x.k0=0):kvs F M x a0 a1 a2 a3 v0 v1 v2 v3 1:=h.s0 (by unfold kindV;rw[if_pos e];exact h.1)
theorem kvs.n1 (h:kvs F M x a0 a1 a2 a3 v0 v1 v2 v3 1) (e:x.k1=0):kvs F M x a0 a1 a2 a3 v0 v1 v2 v3 2:=h.s1 (by unfold kindV;rw[if_pos e];exact h.2.1)
theorem kvs.n2 (h:kvs F M x a0 a1 a2 a3 v0 v1 v2 v3 2) (e:x.k2=0):kvs F M x a0 a1 a2 a3 v0 v1 v2 v3 3:=h.s2 (by unfold kindV;rw[if_pos e];exact h.2.2.1)
theorem kvs.n3 (h:kvs F M x a0 a1 a2 a3 v0 v1 v2 v3 3) (e:x.k3=0):kvs F M x a0 a1 a2 a3 v0 v1 v2 v3 4:=h.s3 (by unfold kindV;rw[if_pos e];exact h.2.2.2)
theorem kvs.start:kvs F M x a0 a1 a2 a3 a0 a1 a2 a3 0:=⟨rfl,rfl,rfl,rfl⟩
theorem kvs.done (h:kvs F M x a0 a1 a2 a3 v0 v1 v2 v3 4):v0=kindV F M x.k0 a0∧v1=kindV F M x.k1 a1∧v2=kindV F M x.k2 a2∧v3=kindV F M x.k3 a3:=h
end
end Go.Proofs.YtaangaogmnlljaaGreatDoor.Kn
namespace Go.Proofs.YtaangaogmnlljaaGreatDoor.Kn
open Go.RowKit Asm
section
variable {F:Fixed} {w:World} {own:Own} {G:KG} {M:Mach} {n:Nat}
theorem callK_no {id num:Int} {r:Run} (hr:runOf M.runs id=some r) (hc:refused F M r num (rg (topF r).f 0) (rg (topF r).f 1) (rg (topF r).f 2) (rg (topF r).f 3)≠0):callK F M id num=returned (tell M (evCall id num (rg (topF r).f 0) (rg (topF r).f 1) (rg (topF r).f 2) (rg (topF r).f 3))) id num (refused F M r num (rg (topF r).f 0) (rg (topF r).f 1) (rg (topF r).f 2) (rg (topF r).f 3)) 0:=by
 unfold callK
 simp only[hr]
 rw[if_pos hc]
 rfl
end
end Go.Proofs.YtaangaogmnlljaaGreatDoor.Kn
namespace Go.Proofs.YtaangaogmnlljaaGreatDoor.Kn
open Go.RowKit Asm
section
variable {F:Fixed} {w:World} {own:Own} {G:KG} {M:Mach} {n:Nat}
theorem KO2.nil {w':World} {l:List Run} (h:KO2 F w own G l M n w'):KO2 F w own G [] M n w':=by
 obtain ⟨tb,fb,-,k⟩:=h
 exact ⟨tb,fb,(fun _ e=>by cases e),k⟩
theorem KO2.from {w1 w':World} {own1:Own} {l:List Run} (t:Touch (fun t=>t≠ .other) w w1 own own1) (h:KO2 F w1 own1 G l M n w'):KO2 F w own G l M n w':=by
 obtain ⟨tb,fb,g,k⟩:=h
 exact ⟨tb,fb,g,KO.trans t k⟩
theorem KO2.more {w':World} {l:List Run} {n':Nat} (h:KO2 F w own G l M n w') (hn:n≤n'):KO2 F w own G l M n' w':=by
 obtain ⟨tb,fb,g,k⟩:=h
 exact ⟨tb,fb,g,k.more hn⟩
end
end Go.Proofs.YtaangaogmnlljaaGreatDoor.Kn
namespace Go.Proofs.YtaangaogmnlljaaGreatDoor.Kn
open Go.RowKit Asm
section
variable {F:Fixed} {w:World} {own:Own} {G:KG} {M:Mach} {n:Nat}
theorem jump_hows (f:Frame) (x:InsL):(jumpK f x).1=0∨((jumpK f x).1=2∧x.op=16∧f.back= [])∨((jumpK f x).1=3∧x.op=15):=by
 unfold jumpK
 split
 ·rename_i h
  cases e:f.back.getLast? with
  |none=>exact Or.inr (Or.inl ⟨rfl,h,by simpa using e⟩)
  |some p=>exact Or.inl rfl
 ·split
  ·rename_i h
   split
   ·exact Or.inr (Or.inr ⟨rfl,h⟩)
   ·exact Or.inl rfl
  ·split<;>exact Or.inl rfl
theorem jump_home {f:Frame} {x:InsL} (h:x.op=16) (hb:f.back= []):(jumpK f x).1=2:=by
 unfold jumpK
 rw[if_pos h,hb]
 rfl
theorem cl_hows {f:Frame} {l:List InsL} {m:Mem} {x:InsL} (hmay: ∀x∈l,mayK x l.length false=true) (hx:insAt l f.pc=some x) (hm:x∈l) (ho: ¬(17≤x.op∧x.op≤21)):
  ((stepL f l m).how=0∧x.op≠22∧ ¬(x.op=16∧f.back= []))∨((stepL f l m).how=1∧x.op=22)∨((stepL f l m).how=2∧x.op=16∧f.back= [])∨((stepL f l m).how=3∧x.op=15):=by
 have hr:runs? l f.pc=some x:=(runs_ins hmay f.pc).trans hx
 have hO:=(may_parts (hmay x hm)).1
 rw[step_of hr]
 by_cases h1:x.op=12∨x.op=13∨x.op=14∨x.op=15∨x.op=16
 ·rw[if_pos h1]
  rcases jump_hows f x with e|⟨e,e1,e2⟩ |⟨e,e1⟩
  ·refine Or.inl ⟨e,by omega,fun q=>?_⟩
   rw[jump_home q.1 q.2] at e
   cases e
  ·exact Or.inr (Or.inr (Or.inl ⟨e,e1,e2⟩))
  ·exact Or.inr (Or.inr (Or.inr ⟨e,e1⟩))
 ·rw[if_neg h1,if_neg ho]
  by_cases h2:x.op=1
  ·rw[if_pos h2];exact Or.inl ⟨rfl,by omega,fun q=>by omega⟩
  ·rw[if_neg h2]
   by_cases h3:x.op=2
   ·rw[if_pos h3];exact Or.inl ⟨rfl,by omega,fun q=>by omega⟩
   ·rw[if_neg h3]
    by_cases h4:3≤x.op∧x.op≤11
    ·rw[if_pos h4];exact Or.inl ⟨rfl,by omega,fun q=>by omega⟩
    ·rw[if_neg h4]
     have h5:=((may_parts (hmay x hm)).2.2.1).resolve_left (by decide)
     exact Or.inr (Or.inl ⟨rfl,by omega⟩)
theorem clientK_plain {i:Nat} {id:Int} {x:InsL} (hx:insAt F.code (getF M i (some id)).pc=some x) (ho: ¬(17≤x.op∧x.op≤21)) (h22:x.op≠22) (h16: ¬(x.op=16∧(getF M i (some id)).back= [])):clientK F M i id=if (stepL (getF M i (some id)) F.code M.mem).how=3 then faultK F M i id x.op 0 else setF M i (some id) (stepL (getF M i (some id)) F.code M.mem).f:=by
 unfold clientK
 simp only[hx]
 rw[if_neg ho,if_neg h22,if_neg h16]
theorem clientK_call {i:Nat} {id:Int} {x:InsL} (hx:insAt F.code (getF M i (some id)).pc=some x) (h22:x.op=22):clientK F M i id=callK F (bumpF M i (some id)) id x.v:=by
 unfold clientK
 simp only[hx]
 rw[if_neg (by omega),if_pos h22]
theorem insAt_mem {l:List InsL} {pc:Int} {x:InsL} (h:insAt l pc=some x):x∈l:=by
 unfold insAt at h
 split at h
 ·cases h
 ·exact List.mem_of_getElem? h
end
end Go.Proofs.YtaangaogmnlljaaGreatDoor.Kn
namespace Go.Proofs.YtaangaogmnlljaaGreatDoor.Kn
open Go.RowKit Asm
section
variable {F:Fixed} {w:World} {own:Own} {G:KG} {M:Mach} {n:Nat}
set_option maxRecDepth 100000 in
set_option maxHeartbeats 2000000 in
theorem pick_own (h:KernP F w own G M n) {i:Nat} (hi:i<F.workers) (hs:(wkrOf M i).slot=0) {Q:World→Prop}
  (HO:Calls Tryz.prog 131 #[.pointer (some ⟨G.K,0,none⟩), .pointer (some ⟨G.gW,i*38,none⟩)] w fun e w'=>e= .returned (.tuple #[])∧Q w'):
  Calls Tryz.prog 64 #[.pointer (some ⟨G.K,0,none⟩), .pointer (some ⟨G.gW,i*38,none⟩)] w fun e w'=>e= .returned (.tuple #[])∧Q w':=by
 have c0:=(h.wk_cells hi).1
 rw[hs] at c0
 have HO:=Lib.hid HO
 clear h hs
 go_enter Tryz.func64,Tryz.ntmps64
 go_wp2_with fail
 refine HO.out.mono ?_
 rintro e w1 ⟨rfl,hq⟩
 have HQ:=Lib.hid hq
 clear hq
 go_wp2_with fail
 exact bodyPost_ret (results_none rfl _ _ _) rfl ⟨rfl,HQ.out⟩
theorem KernP.libcell (h:KernP F w own G M n) {id:Int} {r:Run} (hr:runOf M.runs id=some r) (hne:r.l≠ []) {l:Nat} (hll:r.l.length=l+1):w.cell? ⟨G.fb id l,34,none⟩=some (.bool (topF r).lib):=by
 have ht:=top_get hne
 rw[hll] at ht
 obtain ⟨hm,rfl⟩:=runOf_mem hr
 have hF:=(h.runs.each r hm).frs l (topF r) ht
 obtain ⟨bv,ho,-⟩:=hF.obj
 rw[blk_cell ho,List.getElem?_toArray,List.getElem?_append_right (by rw[frC_len hF.ok.len];decide),frC_len hF.ok.len]
 rfl
set_option maxRecDepth 100000 in
set_option maxHeartbeats 2000000 in
theorem pick_inj (h:KernP F w own G M n) {i:Nat} (hi:i<F.workers) {id:Int} (hs:(wkrOf M i).slot=id) {r:Run} (hr:runOf M.runs id=some r) (hne:r.l≠ []) (hlib:(topF r).lib=false) (hleft:(wkrOf M i).left=0):
  Calls Tryz.prog 64 #[.pointer (some ⟨G.K,0,none⟩), .pointer (some ⟨G.gW,i*38,none⟩)] w fun e w'=>e= .returned (.tuple #[])∧KO F w own G (leave F (inject M id) i) n w':=by
 obtain ⟨c0,-,-,c3,fw⟩:=h.wk_cells hi
 obtain ⟨g,c,l,ct1,hll,cg,-,hgl,hlc⟩:=h.top_ptr hr hne
 have hlen:r.l.length≤100:=(h.runs.each r (runOf_mem hr).1).few
 have hlI:(0:Int)≤(l:Int)∧(l:Int)<(l:Int)+1:=by omega
 have hl2:(l:Int)≤99:=by omega
 have hwr:IntKind.i64.wrap ((l:Int)+1 - 1)=(l:Int):=by rw[IntKind.wrap_i64];omega
 have cl:=h.libcell hr hne hll
 rw[hlib] at cl
 rw[hs] at c0
 obtain ⟨ct0,-,-,⟨hid0,hidu⟩,-⟩:=h.thr_cells hr
 have kth:w.cell? ⟨G.K,1014,none⟩=some (.map (some G.th)):=h.kcell fun _ _ hc=>hc.th
 have hlk: ∀nq,(Instr.lookup 156 (.map (some G.th)) (.int .u64 id) false).run Tryz.prog (w.drewN nq)= .ok (.pointer (some ⟨G.tb id,0,none⟩)) (w.drewN nq):=fun nq=>by
  have:=(h.drewN nq).look id hidu
  rw[hr] at this
  exact this
 have hz:(id==0)=false:=beq_eq_false_iff_ne.2 hid0
 rw[hleft] at c3
 have H:=Lib.hid h
 have HI:=Lib.hid hi
 have HU:=Lib.hid hidu
 clear h hr hne hlib hleft hs hll hlen hgl hlc hidu hi fw
 go_enter Tryz.func64,Tryz.ntmps64
 go_wp2_with fail
 go_quiet (fail)
 go_wp2_with fail
 go_quiet (fail)
 go_wp2_with fail
 generalize hw1:w.drewN _=w1
 have H1:Hid (KernP F w1 own G M n):=Lib.hid (by rw[←hw1];exact H.out.drewN _)
 have HT:Hid (Touch (fun t=>t≠ .other) w w1 own own):=Lib.hid (by rw[←hw1];exact touch_drewN w own _)
 refine (inject_any H1.out id HU.out).mono ?_
 rintro e w2 ⟨rfl,own2,h2,t2⟩
 have HT:=Lib.hid (HT.out.trans t2)
 have HL:=Lib.hid (leave_any h2 HI.out)
 clear h2 t2 hw1
 go_wp2_with fail
 refine HL.out.mono ?_
 rintro e w3 ⟨rfl,hk⟩
 have HK:=Lib.hid (KO.trans HT.out hk)
 clear hk
 go_wp2_with fail
 exact bodyPost_ret (results_none rfl _ _ _) rfl ⟨rfl,HK.out⟩
def lessK (k:Int):Int:=if 1≤k then k - 1 else 0
theorem lessK_ok {k:Int} (h:0≤k∧k≤100):max (k - 1) 0=lessK k∧0≤lessK k∧lessK k≤100:=by
 unfold lessK
 by_cases h1:1≤k
 ·rw[if_pos h1];omega
 ·rw[if_neg h1];omega
set_option maxRecDepth 100000 in
set_option maxHeartbeats 2000000 in
theorem pick_cl (h:KernP F w own G M n) {i:Nat} (hi:i<F.workers) {id:Int} (hs:(wkrOf M i).slot=id) {r:Run} (hr:runOf M.runs id=some r) (hne:r.l≠ []) (hlib:(topF r).lib=false) (hleft:(wkrOf M i).left≠0) {Q:World→Prop}
  (HC: ∀W,KernP F W own G (setW M i { wkrOf M i with left:=lessK (wkrOf M i).left}) n→Touch (fun t=>t≠ .other) w W own own→Calls Tryz.prog 134 #[.pointer (some ⟨G.K,0,none⟩), .pointer (some ⟨G.gW,i*38,none⟩), .pointer (some ⟨G.tb id,0,none⟩), .pointer (some ⟨G.fb id (r.l.length - 1),0,none⟩)] W fun e w'=>e= .returned (.tuple #[])∧Q w'):
  Calls Tryz.prog 64 #[.pointer (some ⟨G.K,0,none⟩), .pointer (some ⟨G.gW,i*38,none⟩)] w fun e w'=>e= .returned (.tuple #[])∧Q w':=by
 obtain ⟨c0,-,-,c3,fw⟩:=h.wk_cells hi
 obtain ⟨g,c,l,ct1,hll,cg,-,hgl,hlc⟩:=h.top_ptr hr hne
 have hlen:r.l.length≤100:=(h.runs.each r (runOf_mem hr).1).few
 have hlI:(0:Int)≤(l:Int)∧(l:Int)<(l:Int)+1:=by omega
 have hl2:(l:Int)≤99:=by omega
 have hwr:IntKind.i64.wrap ((l:Int)+1 - 1)=(l:Int):=by rw[IntKind.wrap_i64];omega
 have cl:=h.libcell hr hne hll
 rw[hlib] at cl
 rw[hs] at c0
 obtain ⟨ct0,-,-,⟨hid0,hidu⟩,-⟩:=h.thr_cells hr
 have kth:w.cell? ⟨G.K,1014,none⟩=some (.map (some G.th)):=h.kcell fun _ _ hc=>hc.th
 have hlk: ∀nq,(Instr.lookup 156 (.map (some G.th)) (.int .u64 id) false).run Tryz.prog (w.drewN nq)= .ok (.pointer (some ⟨G.tb id,0,none⟩)) (w.drewN nq):=fun nq=>by
  have:=(h.drewN nq).look id hidu
  rw[hr] at this
  exact this
 have hz:(id==0)=false:=beq_eq_false_iff_ne.2 hid0
 have hwk:=h.wk_ok hi
 obtain ⟨hmx,hm0,hm1⟩:=lessK_ok hwk.left
 have hlf:=hwk.left
 have hsub:IntKind.i64.wrap ((wkrOf M i).left - 1)=(wkrOf M i).left - 1:=by rw[IntKind.wrap_i64];omega
 have HP:Hid (∀q,KernP F ((w.drewN q).setCell ⟨G.gW,i*38+3,none⟩ (.int .i64 (lessK (wkrOf M i).left))) own G (setW M i { wkrOf M i with left:=lessK (wkrOf M i).left}) n∧Touch (fun t=>t≠ .other) w ((w.drewN q).setCell ⟨G.gW,i*38+3,none⟩ (.int .i64 (lessK (wkrOf M i).left))) own own):=Lib.hid fun q=>by
  have hp:=(h.drewN q).wk_put hi (j:=3) (by decide) (v:= .int .i64 (lessK (wkrOf M i).left)) (k':={ wkrOf M i with left:=lessK (wkrOf M i).left}) rfl rfl hwk.slot hwk.hand ⟨hm0,hm1⟩
  exact ⟨hp.1,(touch_drewN w own q).trans (hp.2.mono fun t e=>by rw[e];nofun)⟩
 have HC:=Lib.hid HC
 rw[hll,Nat.add_sub_cancel] at HC
 have fw3:=fw (i*38+3)
 have hlz:((wkrOf M i).left==0)=false:=beq_eq_false_iff_ne.2 hleft
 generalize setW M i { wkrOf M i with left:=lessK (wkrOf M i).left}=M1 at*
 generalize lessK (wkrOf M i).left=m at*
 generalize (wkrOf M i).left=lf at*
 clear h hr hne hlib hs hll hlen hgl hlc hidu hi fw hwk hleft
 go_enter Tryz.func64,Tryz.ntmps64
 go_wp2_with fail
 go_quiet (fail)
 go_wp2_with fail
 go_quiet (fail)
 go_wp2_with fail
 obtain ⟨h1,t1⟩:=HP.out _
 generalize World.setCell _ _ _=w1 at*
 have HL:=Lib.hid (HC.out w1 h1 t1)
 clear h1 t1
 refine HL.out.mono ?_
 rintro e w3 ⟨rfl,hk⟩
 have HK:=Lib.hid hk
 clear hk
 go_wp2_with fail
 go_end0
 exact ⟨rfl,HK.out⟩
end
end Go.Proofs.YtaangaogmnlljaaGreatDoor.Kn
namespace Go.Proofs.YtaangaogmnlljaaGreatDoor.Kn
open Go.RowKit Asm
section
variable {F:Fixed} {w:World} {own:Own} {G:KG} {M:Mach} {n:Nat}
theorem mini_ops {x:InsL} (h:okOp x.op=true):x.op=34∨x.op=35∨x.op=36∨x.op=38∨x.op=39∨x.op=40∨x.op=42:=by
 unfold okOp at h
 simp only[Bool.or_eq_true,beq_iff_eq] at h
 omega
theorem mini_same (F:Fixed) (M:Mach) (i:Nat) (x:InsL) (h:okOp x.op=true):(special F M i none x).2.out=M.out∧(special F M i none x).2.runs=M.runs∧((special F M i none x).1=0∨(special F M i none x).1=1):=by
 rcases mini_ops h with ho|ho|ho|ho|ho|ho|ho
 ·rw[sp_34 F M i none x ho]
  by_cases hz:(wkrOf M i).hand=0
  ·rw[if_pos hz];exact ⟨rfl,rfl,Or.inl rfl⟩
  ·rw[if_neg hz];exact ⟨rfl,rfl,Or.inl rfl⟩
 ·rw[sp_35 F M i none x ho]
  by_cases hz:(wkrOf M i).hand≠0∧rg (getF M i none) x.a=(wkrOf M i).hand∧(wkrOf M i).slot=0
  ·rw[if_pos hz];exact ⟨rfl,rfl,Or.inl rfl⟩
  ·rw[if_neg hz];exact ⟨rfl,rfl,Or.inl rfl⟩
 ·rw[sp_36 F M i none x ho]
  by_cases hz:peekM M.mem 0=rg (getF M i none) x.a
  ·rw[if_pos hz];exact ⟨rfl,rfl,Or.inr rfl⟩
  ·rw[if_neg hz];exact ⟨rfl,rfl,Or.inl rfl⟩
 all_goals
  rw[sp_told F M i none x (by omega)]
  exact ⟨rfl,rfl,Or.inl rfl⟩
theorem special_mini (h:KernP F w own G M n) {i:Nat} (hi:i<F.workers) {t:Option Int} {b o:Nat} (fa:FAt G M i t b o) (x:InsL) (hm:mayK x F.lib.length true=true) (hop:okOp x.op=true) (hw:M.w=i):
  Calls Tryz.prog 194 #[.pointer (some ⟨G.K,0,none⟩), .pointer (some ⟨G.gW,i*38,none⟩),tptr G t, .pointer (some ⟨b,o,none⟩), .agg (insV x)] w (SpOut F w own G M n (special F M i t x)):=by
 have hops:=mini_ops hop
 by_cases h36:x.op=36
 ·exact special_36 h hi fa x hm h36
 ·by_cases ht2:x.op=40∨x.op=42∨x.op=38∨x.op=39
  ·exact special_told h hi fa x hm (by omega) hw
  ·obtain ⟨own1,h1,t1⟩:=h.inB x
   obtain ⟨ha,-,-,-,-⟩:=may_regs hm
   have fin: ∀{M':Mach} {n':Nat} {w':World},n'≤n+2→KO F (Kn.boxed w x) own1 G M' n' w'→KO2 F w own G M.runs M' (n+2) w':=fun hn' k=>((KO.trans t1 k).more hn').two
   have h34:x.op=34∨x.op=35:=by omega
   rcases h34 with ho|ho
   ·rw[sp_34 F M i t x ho]
    by_cases hz:(wkrOf M i).hand=0
    ·rw[if_pos hz]
     exact spec_hand x (by omega) (Q:=fun w'=>KO2 F w own G M.runs _ (n+2) w') ((handy_34b h1 hi fa x ho ha hz).mono fun e w' ⟨a,k⟩=>⟨a,fin (by omega) k⟩)
    ·rw[if_neg hz]
     exact spec_hand x (by omega) (Q:=fun w'=>KO2 F w own G M.runs _ (n+2) w') ((handy_34a h1 hi fa x ho ha hz).mono fun e w' ⟨a,k⟩=>⟨a,fin (by omega) k⟩)
   ·rw[sp_35 F M i t x ho]
    exact spec_hand x (by omega) (Q:=fun w'=>KO2 F w own G M.runs _ (n+2) w') ((handy_35 h1 hi fa x ho ha).mono fun e w' ⟨a,k⟩=>⟨a,fin (by omega) k⟩)
set_option maxHeartbeats 2000000 in
theorem own_mini0 (h:KernP F w own G M n) {i:Nat} (hi:i<F.workers) (hw:M.w=i) (hn:n≤60000) (hf:M.out.length<900000) {x:InsL} (hx:insAt F.lib (getF M i none).pc=some x) (hok:(stepL (getF M i none) F.lib M.mem).how=0∨((stepL (getF M i none) F.lib M.mem).how=1∧okOp x.op=true)) {w0:World} (hw0:w=w0.setCell ⟨G.gW,i*38+2,none⟩ (.bool false)) (hu: ∃u,w0.cell? ⟨G.gW,i*38+2,none⟩=some u) (hfz:w0.frozen? ⟨G.gW,i*38+2,none⟩=false):
  Calls Tryz.prog 131 #[.pointer (some ⟨G.K,0,none⟩), .pointer (some ⟨G.gW,i*38,none⟩)] w0 fun e w'=>e= .returned (.tuple #[])∧KO2 F w own G M.runs (if (library F M i none).1=2∨(library F M i none).1=3 then again F (library F M i none).2 i else (library F M i none).2) (n+6) w':=by
 have fa:FAt G M i none G.gW (i*38+4):=⟨rfl,rfl⟩
 have HS:=step_any h hi fa (by omega)
 have hlibs:=h.fok.libs
 have hnod:=h.runs.nod
 have hwl:i<M.wkrs.length:=h.wlen hi
 have hxe:(insAt F.lib (getF M i none).pc).getD insZ=x:=by rw[hx];rfl
 rw[hw0] at HS
 rcases hok with e|⟨e,hop⟩
 ·obtain ⟨x2,hx2,-,hmx⟩:=step_ins (m:=M.mem) hlibs (f:=getF M i none) (by rw[e];decide)
  obtain rfl:x=x2:=Option.some.inj (hx.symm.trans hx2)
  rw[lib_eq0 e,hxe]
  simp only[Option.getD_none]
  rw[if_neg (by decide)]
  rw[hxe,e] at HS
  have faM:FAt G { M with mem:=(stepL (getF M i none) F.lib M.mem).mem} i none G.gW (i*38+4):=fa
  have hg:=getF_setF (M:={ M with mem:=(stepL (getF M i none) F.lib M.mem).mem}) hnod hwl faM (stepL (getF M i none) F.lib M.mem).f
  have fa2:FAt G (setF { M with mem:=(stepL (getF M i none) F.lib M.mem).mem} i none (stepL (getF M i none) F.lib M.mem).f) i none G.gW (i*38+4):=⟨rfl,rfl⟩
  have hout:(setF { M with mem:=(stepL (getF M i none) F.lib M.mem).mem} i none (stepL (getF M i none) F.lib M.mem).f).out=M.out:=(setF_tab _ _ _ _).2
  generalize setF { M with mem:=(stepL (getF M i none) F.lib M.mem).mem} i none (stepL (getF M i none) F.lib M.mem).f=M1 at*
  generalize (stepL (getF M i none) F.lib M.mem).f=f1 at*
  refine own_went x hu hfz HS (fun w1 hp=>?_)
  rw[←hw0] at hp
  obtain ⟨own1,h1,t1,-⟩:=hp.boxed x
  have:=mark_any h1.drew hi fa2 0 x hmx (by rw[hout];omega)
  rw[hg] at this
  exact this.mono fun e' w' ⟨a,k⟩=>⟨a,((KO.trans (t1.trans (touch_drew _ _)) k).more (by omega)).two⟩
 ·obtain ⟨x2,hx2,hxl,hmx,h23,h58⟩:=step_away hlibs e
  obtain rfl:x=x2:=Option.some.inj (hx.symm.trans hx2)
  have h57:x.op≠57:=fun q=>by have:=mini_ops hop;omega
  have hst:=step_still (getF M i none) F.lib M.mem (by rw[e];decide)
  have hself:=h.setF_self hi fa
  rw[hxe,hst.1,hst.2,e] at HS
  have hM:setF { M with mem:=M.mem} i none (getF M i none)=M:=hself
  rw[hM,←hw0] at HS
  obtain ⟨hG,hrs,h3⟩:=mini_same F M i x hop
  have hsp: ∀w1,KO F w own G M (n+1) w1→Calls Tryz.prog 194 #[.pointer (some ⟨G.K,0,none⟩), .pointer (some ⟨G.gW,i*38,none⟩), .pointer none, .pointer (some ⟨G.gW,i*38+4,none⟩), .agg (insV x)] (Kn.boxed w1 x).drew fun e w'=>e= .returned (.int .i64 (special F M i none x).1)∧(∃tb fb own',GAgree G tb fb M.runs∧KernP F w' own' { G with tb:=tb,fb:=fb} (special F M i none x).2 (n+3)∧Touch (fun t=>t≠ .other) w w' own own'∧BoxAt w' own' w1.heap.size (insV x) 68):=fun w1 hp=>by
   obtain ⟨own1,h1,t1,b1⟩:=hp.boxed x
   refine (special_mini h1.drew hi fa x hmx hop hw).mono fun e' w' hq=>?_
   obtain ⟨a,tb,fb,own',hg,h5,t5⟩:=hq.at
   exact ⟨a,tb,fb,own',hg,h5,(t1.trans (touch_drew _ _)).trans t5,b1.drew.move t5⟩
  rw[hw0] at HS
  rw[lib_away e hx h57]
  generalize hpe:special F M i none x=p at*
  obtain ⟨c,M2⟩:=p
  simp only at hsp hG hrs h3 ⊢
  rcases h3 with h3|h3
  ·subst h3
   have hrs2:RunsSame M M2:=RunsSame.of hrs
   simp only[if_true,Option.getD_none]
   rw[if_neg (by decide)]
   refine own_away0 x hu hfz HS (fun w1 hp=>hsp w1 (by rw[hw0];exact hp)) (fun w1 w2 hp hp2=>?_)
   obtain ⟨tb,fb,own2,hg,h5,t5,b5⟩:=hp2
   have fa5:=fa.sp hg hrs2
   obtain ⟨c0,c1,c2,k6⟩:=h5.bump hi fa5
   have hne2:=h5.frame_other hi fa5 b5.2
   refine ⟨⟨_,c0,⟨c1.1,by omega⟩,c2,?_⟩,b5.seven,hne2⟩
   obtain ⟨own6,h6,t6⟩:=k6
   have fa6:FAt { G with tb:=tb,fb:=fb} (bumpF M2 i none) i none G.gW (i*38+4):=⟨rfl,rfl⟩
   have ho:(bumpF M2 i none).out=M2.out:=(setF_tab _ _ _ _).2
   refine (mark_any h6.drew hi fa6 0 x hmx (by rw[ho,hG];omega)).mono fun e' w' ⟨a,k⟩=>⟨a,tb,fb,hg,?_⟩
   exact (KO.trans ((t5.trans t6).trans (touch_drew _ _)) k).more (by omega)
  ·subst h3
   simp only[Int.reduceEq,if_false,if_true]
   rw[if_neg (by decide)]
   refine own_away1 x hu hfz HS (fun w1 hp=>hsp w1 (by rw[hw0];exact hp)) (fun w1 w2 hp hp2=>?_)
   obtain ⟨tb,fb,own2,hg,h5,t5,b5⟩:=hp2
   exact ⟨tb,fb,hg,own2,h5.more (by omega),t5⟩
theorem own_mini (h:KernP F w own G M n) {i:Nat} (hi:i<F.workers) (hw:M.w=i) (hn:n≤60000) (hf:M.out.length<900000) {x:InsL} (hx:insAt F.lib (getF (setW M i { wkrOf M i with parked:=false}) i none).pc=some x)
  (hok:(stepL (getF (setW M i { wkrOf M i with parked:=false}) i none) F.lib M.mem).how=0∨((stepL (getF (setW M i { wkrOf M i with parked:=false}) i none) F.lib M.mem).how=1∧okOp x.op=true)):
  Calls Tryz.prog 131 #[.pointer (some ⟨G.K,0,none⟩), .pointer (some ⟨G.gW,i*38,none⟩)] w fun e w'=>e= .returned (.tuple #[])∧KO2 F w own G M.runs (ownK F M i) (n+6) w':=by
 obtain ⟨-,-,q2,-,q3⟩:=h.wk_cells hi
 have hp:=h.wk_put hi (j:=2) (by decide) (v:= .bool false) (k':={ wkrOf M i with parked:=false}) rfl rfl (h.wk_ok hi).slot (h.wk_ok hi).hand (h.wk_ok hi).left
 have:=own_mini0 hp.1 hi hw hn hf hx hok rfl ⟨_,q2⟩ (q3 _)
 refine this.mono fun e w' ⟨a,tb,fb,hg,k⟩=>⟨a,tb,fb,hg,?_⟩
 exact KO.trans (hp.2.mono fun t e=>by rw[e];nofun) k
theorem vstep_mini (h:KernP F w own G M n) {i:Nat} (hi:i<F.workers) {t:Option Int} {b o:Nat} (fa:FAt G M i t b o) (hn:n≤100000) (id sop:Int) {x:InsL} (hx:insAt F.code (getF M i t).pc=some x) (ho: ¬(17≤x.op∧x.op≤21)):
  Calls Tryz.prog 198 #[.pointer (some ⟨b,o,none⟩),G.pv, .iface 410 (shV G.K id sop)] w fun e w'=>(∃ev,e= .returned (.tuple #[.int .i64 (stepL (getF M i t) F.code M.mem).how,ev]))∧KO F w own G (setF M i t (stepL (getF M i t) F.code M.mem).f) (n+1) w':=by
 obtain ⟨ty,P,S,tb,tk,bv,hf⟩:=h.frame hi fa
 obtain ⟨g,c,hlv,hc,hgo,hg⟩:=h.fix.code.codeAt h.fok.code.1
 have hl:=h.fok.code.2
 have hmay:=h.fok.codes
 have hv:=h.fok.codev
 have hM:=h.mem
 rw[hlv]
 have hO:=(may_parts (hmay x (insAt_mem hx))).1
 have fin: ∀(e:Ending) (w':World),e= .returned (.tuple #[.int .i64 (stepL (getF M i t) F.code M.mem).how, .nilIface])∧FrOut w own b o ty P S tb tk (n+1) (stepL (getF M i t) F.code M.mem).f w'→(∃ev,e= .returned (.tuple #[.int .i64 (stepL (getF M i t) F.code M.mem).how,ev]))∧KO F w own G (setF M i t (stepL (getF M i t) F.code M.mem).f) (n+1) w':=fun e w' ⟨a,c⟩=>⟨⟨_,a⟩,hf.out hM (Nat.le_succ n) c⟩
 by_cases h1:x.op≤11
 ·exact (vstep_reck hf.fr hf.ne hc hg hl hmay hv hn hx ⟨hO.1,h1⟩ M.mem).mono fin
 ·by_cases h2:x.op≤16
  ·exact (vstep_jump hf.fr hf.ne hc hg hl hmay hv hn hx ⟨by omega,h2⟩ M.mem).mono fin
  ·exact (vstep_away hf.fr hf.ne hc hg hl hmay hv hn hx (by omega) M.mem).mono fin
theorem client_plain (h:KernP F w own G M n) {i:Nat} (hi:i<F.workers) {id:Int} {b:Nat} {r:Run} (hr:runOf M.runs id=some r) (hne:r.l≠ []) (fa:FAt G M i (some id) b 0) (hn:n≤60000) {x:InsL} (hx:insAt F.code (getF M i (some id)).pc=some x) (ho: ¬(17≤x.op∧x.op≤21)) (h22:x.op≠22) (h16:x.op≠16) (e:(stepL (getF M i (some id)) F.code M.mem).how=0):
  Calls Tryz.prog 134 #[.pointer (some ⟨G.K,0,none⟩), .pointer (some ⟨G.gW,i*38,none⟩), .pointer (some ⟨G.tb id,0,none⟩), .pointer (some ⟨b,0,none⟩)] w fun e w'=>e= .returned (.tuple #[])∧KO2 F w own G [] (clientK F M i id) (n+3) w':=by
 have hnod:=h.runs.nod
 have hxe:(insAt F.code (getF M i (some id)).pc).getD insZ=x:=by rw[hx];rfl
 rw[clientK_plain hx ho h22 (fun q=>h16 q.1),e,if_neg (by decide)]
 obtain ⟨r2,hr2,-⟩:=rs_setF (M:=M) hnod i (some id) (stepL (getF M i (some id)) F.code M.mem).f id r hr hne
 refine (client_0 h hi fa x hxe (by omega) (n2:=n+1) hr hr2 (fun W own' hW=>?_)).mono fun e w' q=>⟨q.1,((q.2.more (by omega)).two (l:= []))⟩
 have:=vstep_mini hW hi fa (by omega) id x.op hx ho
 rw[e] at this
 exact this
theorem client_no (h:KernP F w own G M n) {i:Nat} (hi:i<F.workers) {id:Int} {b:Nat} {r:Run} (hr:runOf M.runs id=some r) (hne:r.l≠ []) (fa:FAt G M i (some id) b 0) (hn:n≤60000) (hout:M.out.length<900000) {x:InsL} (hx:insAt F.code (getF M i (some id)).pc=some x) (h22:x.op=22) (hv0:0≤x.v∧x.v<1000) (e:(stepL (getF M i (some id)) F.code M.mem).how=1)
  (hc: ∀r2,runOf (bumpF M i (some id)).runs id=some r2→refused F (bumpF M i (some id)) r2 x.v (rg (topF r2).f 0) (rg (topF r2).f 1) (rg (topF r2).f 2) (rg (topF r2).f 3)≠0):
  Calls Tryz.prog 134 #[.pointer (some ⟨G.K,0,none⟩), .pointer (some ⟨G.gW,i*38,none⟩), .pointer (some ⟨G.tb id,0,none⟩), .pointer (some ⟨b,0,none⟩)] w fun e w'=>e= .returned (.tuple #[])∧KO2 F w own G [] (clientK F M i id) (n+3) w':=by
 have hnod:=h.runs.nod
 have hself:=h.setF_self hi fa
 have hxe:(insAt F.code (getF M i (some id)).pc).getD insZ=x:=by rw[hx];rfl
 rw[clientK_call hx h22]
 obtain ⟨r2,hr2,hl2⟩:=rs_setF (M:=M) hnod i (some id) { getF M i (some id) with pc:=(getF M i (some id)).pc+1} id r hr hne
 have hne2:r2.l≠ []:=fun e=>hne (by rw[←List.length_eq_zero_iff,←hl2,e];rfl)
 have fa2:FAt G (bumpF M i (some id)) i (some id) b 0:=FAt.setF fa hnod _
 have hc2:=hc r2 hr2
 have eg:getF (bumpF M i (some id)) i (some id)=(topF r2).f:=by
  have hr3:runOf (bumpF M i (some id)).runs id=some r2:=hr2
  unfold getF
  simp only[hr3]
 have hob:(bumpF M i (some id)).out=M.out:=(setF_tab _ _ _ _).2
 refine client_1 h hi fa x hxe (by omega) (M2:=M) (n2:=n+1) hr hr fa (by omega) hv0 (Q:=fun w'=>KO2 F w own G [] (callK F (bumpF M i (some id)) id x.v) (n+3) w') (fun W o hW tW=>?_) (fun W own' hW=>?_)
 ·have e2:=callK_no (F:=F) (M:=bumpF M i (some id)) (id:=id) (num:=x.v) hr2 hc2
  rw[e2]
  exact (call_no hW hi hr2 hne2 fa2 x.v hv0 (by rw[hob];omega) (by rw[eg]) (by rw[eg]) (by rw[eg]) (by rw[eg]) hc2).mono fun e w' q=>⟨q.1,(KO2.from tW (q.2.two (l:= []))).more (by omega)⟩
 ·have:=vstep_mini hW hi fa (by omega) id x.op hx (by omega)
  have hst:=(step_still (getF M i (some id)) F.code M.mem (by rw[e];decide)).1
  rw[e,hst,hself] at this
  exact this
end
end Go.Proofs.YtaangaogmnlljaaGreatDoor.Kn
namespace Go.Proofs.YtaangaogmnlljaaGreatDoor.Kn
open Go.RowKit Asm
section
variable {F B0:Fixed} {w:World} {own:Own} {G:KG} {n:Nat} {hh num c:Int}
theorem okOwn_at {A:Mach} (h:okOwn F A=true): ∃x,insAt F.lib (getF A 0 none).pc=some x∧((stepL (getF A 0 none) F.lib A.mem).how=0∨((stepL (getF A 0 none) F.lib A.mem).how=1∧okOp x.op=true)):=by
 unfold okOwn at h
 have eg:getF A 0 none=(wkrOf A 0).f:=rfl
 rw[eg]
 cases hx:insAt F.lib (wkrOf A 0).f.pc with
 |none=>rw[hx] at h;cases h
 |some x=>
  rw[hx] at h
  simp only[Bool.or_eq_true,Bool.and_eq_true,beq_iff_eq] at h
  exact ⟨x,rfl,h⟩
theorem okOwn_like (hl:FLike F B0) (A:Mach) (R:List Run) (v:Wkr) (h:okOwn B0 (setW (entA A) 0 v)=true):okOwn F (setW (withR (entA A) R) 0 v)=true:=by
 unfold okOwn at*
 rw[hl.lib]
 exact h
theorem den_pick (hD:DenF F B0 hh num) (hwn:F.wide=2∧F.narrow=0) (hd:denied F num c) (hc:c≠0) (h0:1000≤hh) (hnum:0≤num∧num<1000) (A:Mach) {pc:Int} {R:List Int} (hR:RegD hh pc R) (ho:condA B0 A=true) (h:KernP F w own G (withR (entA A) (runD pc R)) n) (hn:n≤60000):
  Calls Tryz.prog 64 #[.pointer (some ⟨G.K,0,none⟩), .pointer (some ⟨G.gW,0*38,none⟩)] w fun e w'=>e= .returned (.tuple #[])∧KO2 F w own G [] (pickK F (withR (entA A) (runD pc R)) 0) (n+6) w':=by
 have hi:0<F.workers:=by rw[hD.like.workers,hD.one];decide
 have hout:(withR (entA A) (runD pc R)).out.length<900000:=by show (0:Nat)<_;decide
 unfold condA at ho
 rw[Bool.and_eq_true] at ho
 obtain ⟨hA',ho⟩:=ho
 have hA:noObjs A:=fun r hr=>by simpa using List.all_eq_true.1 hA' r hr
 by_cases hs:(wkrOf A 0).slot=0
 ·rw[if_pos hs] at ho
  simp only[Bool.and_eq_true] at ho
  have hs':(wkrOf (withR (entA A) (runD pc R)) 0).slot=0:=hs
  have e:pickK F (withR (entA A) (runD pc R)) 0=ownK F (withR (entA A) (runD pc R)) 0:=by
   unfold pickK ownK
   simp only
   rw[if_pos hs']
  rw[e]
  obtain ⟨x,hx,hok⟩:=okOwn_at (okOwn_like hD.like A (runD pc R) _ ho.1)
  exact (pick_own h hi hs' (own_mini h hi rfl hn hout hx hok)).mono fun e w' q=>⟨q.1,q.2.nil⟩
 ·rw[if_neg hs] at ho
  have hs64:(wkrOf (withR (entA A) (runD pc R)) 0).slot=64:=by
   have h64:(wkrOf A 0).slot=64:=by simpa using ho
   exact h64
  have hs': ¬(wkrOf (withR (entA A) (runD pc R)) 0).slot=0:=hs
  have hr:runOf (withR (entA A) (runD pc R)).runs 64=some ⟨64,[⟨⟨pc,R,[]⟩,false,0⟩],0⟩:=rfl
  have hne:(⟨64,[⟨⟨pc,R,[]⟩,false,0⟩],0⟩:Run).l≠ []:=by simp
  by_cases hz:(wkrOf (withR (entA A) (runD pc R)) 0).left=0
  ·have e:pickK F (withR (entA A) (runD pc R)) 0=leave F (inject (withR (entA A) (runD pc R)) 64) 0:=by
    unfold pickK
    simp only
    rw[if_neg hs',hs64,hr]
    simp only
    rw[if_pos ⟨rfl,hz⟩]
   rw[e]
   exact (pick_inj h hi hs64 hr hne rfl hz).mono fun e w' q=>⟨q.1,(q.2.more (by omega)).two⟩
  ·have e:pickK F (withR (entA A) (runD pc R)) 0=clientK F (setW (withR (entA A) (runD pc R)) 0 { wkrOf (withR (entA A) (runD pc R)) 0 with left:=lessK (wkrOf (withR (entA A) (runD pc R)) 0).left}) 0 64:=by
    unfold pickK
    simp only
    rw[if_neg hs',hs64,hr]
    simp only
    rw[if_neg fun q=>hz q.2]
    exact (if_pos (c:=(topF ⟨64,[⟨⟨pc,R,[]⟩,false,0⟩],0⟩).lib=false) rfl)
   rw[e]
   refine pick_cl h hi hs64 hr hne rfl hz (fun W hW tW=>?_)
   have hMe:setW (withR (entA A) (runD pc R)) 0 { wkrOf (withR (entA A) (runD pc R)) 0 with left:=lessK (wkrOf (withR (entA A) (runD pc R)) 0).left}=withR (setW (entA A) 0 { wkrOf A 0 with left:=lessK (wkrOf A 0).left}) (runD pc R):=rfl
   rw[hMe] at hW ⊢
   have hBo:(setW (entA A) 0 { wkrOf A 0 with left:=lessK (wkrOf A 0).left}).out.length<900000:=by show (0:Nat)<_;decide
   have hBn:noObjs (setW (entA A) 0 { wkrOf A 0 with left:=lessK (wkrOf A 0).left}):=hA
   generalize setW (entA A) 0 { wkrOf A 0 with left:=lessK (wkrOf A 0).left}=B at*
   have fa:FAt G (withR B (runD pc R)) 0 (some 64) (G.fb 64 0) 0:=⟨_,rfl,hne,rfl,rfl⟩
   have hrB:runOf (withR B (runD pc R)).runs 64=some ⟨64,[⟨⟨pc,R,[]⟩,false,0⟩],0⟩:=rfl
   have fin: ∀{e:Ending} {w':World},(e= .returned (.tuple #[])∧KO2 F W own G [] (clientK F (withR B (runD pc R)) 0 64) (n+3) w')→e= .returned (.tuple #[])∧KO2 F w own G [] (clientK F (withR B (runD pc R)) 0 64) (n+6) w':=fun q=>⟨q.1,(KO2.from tW q.2).more (by omega)⟩
   have eg:getF (withR B (runD pc R)) 0 (some 64)=⟨pc,R,[]⟩:=rfl
   obtain ⟨hl,hp,r0,r1,r2⟩:=hR
   by_cases h3:pc=3
   ·subst h3
    have hx:insAt F.code (getF (withR B (runD 3 R)) 0 (some 64)).pc=some ⟨22,0,0,0,num,0,0⟩:=by rw[hD.code];rfl
    have hhow:(stepL (getF (withR B (runD 3 R)) 0 (some 64)) F.code (withR B (runD 3 R)).mem).how=1:=by
     rcases cl_hows (m:=(withR B (runD 3 R)).mem) hW.fok.codes hx (insAt_mem hx) (by show¬((17:Int)≤22∧(22:Int)≤21);decide) with ⟨-,q,-⟩ |⟨q,-⟩ |⟨-,q,-⟩ |⟨-,q⟩
     ·exact absurd rfl q
     ·exact q
     ·exact absurd (show (22:Int)=16 from q) (by decide)
     ·exact absurd (show (22:Int)=15 from q) (by decide)
    refine (client_no hW hi hrB hne fa hn hBo hx rfl hnum hhow fun r' hr'=>?_).mono fun e w' q=>fin q
    have e4:runOf (bumpF (withR B (runD 3 R)) 0 (some 64)).runs 64=some ⟨64,[⟨⟨4,R,[]⟩,false,0⟩],0⟩:=rfl
    rw[e4] at hr'
    injection hr' with hr'
    subst hr'
    have q0:=r0 (by decide)
    have q1:=r1 (by decide)
    have q2:=r2 rfl
    have hq:refused F (withR B (runD 4 R)) ⟨64,[⟨⟨4,R,[]⟩,false,0⟩],0⟩ num (R.getD 0 0) (R.getD 1 0) (R.getD 2 0) (R.getD 3 0)=c:=refused_den hwn hBn hd rfl (by rw[q0];exact h0) (by rw[q1];exact h0) (by rw[q2];exact h0)
    show refused F (withR B (runD 4 R)) ⟨64,[⟨⟨4,R,[]⟩,false,0⟩],0⟩ num (R.getD 0 0) (R.getD 1 0) (R.getD 2 0) (R.getD 3 0)≠0
    rw[hq]
    exact hc
   ·have h4:pc=0∨pc=1∨pc=2∨pc=4:=by omega
    obtain ⟨x,hx,ho1⟩: ∃x,insAt F.code (getF (withR B (runD pc R)) 0 (some 64)).pc=some x∧(x.op=1∨x.op=12):=by
     rw[hD.code,eg]
     rcases h4 with rfl|rfl|rfl|rfl
     ·exact ⟨⟨1,0,0,0,hh,0,0⟩,rfl,Or.inl rfl⟩
     ·exact ⟨⟨1,1,0,0,hh,0,0⟩,rfl,Or.inl rfl⟩
     ·exact ⟨⟨1,2,0,0,hh,0,0⟩,rfl,Or.inl rfl⟩
     ·exact ⟨⟨12,0,0,0,0,0,0⟩,rfl,Or.inr rfl⟩
    have hw0:(stepL (getF (withR B (runD pc R)) 0 (some 64)) F.code (withR B (runD pc R)).mem).how=0:=by
     rcases cl_hows (m:=(withR B (runD pc R)).mem) hW.fok.codes hx (insAt_mem hx) (by omega) with ⟨q,-,-⟩ |⟨-,q⟩ |⟨-,q,-⟩ |⟨-,q⟩
     ·exact q
     ·omega
     ·omega
     ·omega
    exact (client_plain hW hi hrB hne fa hn hx (by omega) (by omega) (by omega) hw0).mono fun e w' q=>fin q
theorem stepA_out (A:Mach) (pc:Int):(stepA B0 A pc).1.out= []:=by
 unfold stepA
 split
 ·rfl
 ·split<;>rfl
theorem den_do (hD:DenF F B0 hh num) (hwn:F.wide=2∧F.narrow=0) (hd:denied F num c) (hc:c≠0) (h0:1000≤hh) (hnum:0≤num∧num<1000) (A:Mach) (hA:A.out= []) {pc:Int} {R:List Int} (hR:RegD hh pc R) (ho:condA B0 A=true) (h:KernP F w own G (withR A (runD pc R)) n) (hn:n≤50000):
  Calls Tryz.prog 18 #[.pointer (some ⟨G.K,0,none⟩), .agg (entV dPick)] w fun e w'=> ∃ov tb fb own' R' l,e= .returned ov∧KernP F w' own' { G with tb:=tb,fb:=fb} (withR (stepA B0 A pc).1 (runD (stepA B0 A pc).2 R')) (n+8)∧RegD hh (stepA B0 A pc).2 R'∧Aside w w' own own'∧PRow w' own' .other 71 11 ov l.length (evC l)∧
   (if (wkrOf A 0).slot≠0∧(wkrOf A 0).left≠0∧pc=3 then∃e1 e2:Ev,l= [e1,e2]∧e1.kind=1∧e1.a0=hh∧e2.kind=2∧e2.num=num∧e2.code=c∧e2.v=0 else l= []):=by
 have hM:(withR A (runD pc R)).out= []:=hA
 obtain ⟨R',q1,q2,q3⟩:=den_step hD hwn hd hc h0 A hR ho
 refine (do_gen h hM dPick ⟨by decide,by decide⟩ hn (fun e=>absurd e (by decide)) (fun k _ hk hkF W own' hW=>?_)).mono fun e w' ⟨ov,tb,fb,own',a,b,c,d⟩=>⟨ov,tb,fb,own',R',_,a,?_,q2,c,d,q3⟩
 ·obtain rfl:k=0:=by
   have:(0:Int)=k:=hk
   omega
  have e:({ doS (withR A (runD pc R)) dPick with w:=((0:Nat):Int)}:Mach)=withR (entA A) (runD pc R):=by
   unfold doS withR entA
   simp only[hA]
   rfl
  rw[e] at hW ⊢
  exact (den_pick hD hwn hd hc h0 hnum A hR ho hW (by omega)).mono fun e w' q=>⟨q.1,q.2.more (by omega)⟩
 ·unfold doN at b
  rw[q1] at b
  exact b
end
end Go.Proofs.YtaangaogmnlljaaGreatDoor.Kn
namespace Go.Proofs.YtaangaogmnlljaaGreatDoor.Kn
open Asm PosTab
theorem rowOf_map (f:CRow→RowL) (hf: ∀r,(f r).num=r.num) (num:Int): ∀l:List CRow,rowOf (l.map f) num=(ofNum num l).map f
 |[]=>rfl
 |r::l=>by
  have ih:=rowOf_map f hf num l
  unfold rowOf at ih ⊢
  unfold ofNum
  rw[List.map_cons,List.find?_cons,hf]
  by_cases h:r.num=num
  ·rw[if_pos h];simp[h]
  ·rw[if_neg h,show (r.num==num)=false from beq_eq_false_iff_ne.2 h];exact ih
theorem rowOf_lib (labels:List (Str×Nat)) (num:Int):rowOf (libCalls labels) num=(ofNum num tab).map fun r=>⟨r.num,(atOf labels r:Int),r.k0,r.k1,r.k2,r.k3⟩:=rowOf_map _ (fun _=>rfl) num tab
theorem ofNum_mem {num:Int}: ∀{l:List CRow} {r:CRow},ofNum num l=some r→r∈l
 |[],_,h=>by cases h
 |x::l,r,h=>by
  unfold ofNum at h
  split at h
  ·injection h with h;subst h;exact List.mem_cons_self
  ·exact List.mem_cons_of_mem _ (ofNum_mem h)
theorem tab_k3:(tab.all fun r=>decide (r.k3=0∨r.k0≠0∨r.k1≠0∨r.k2≠0))=true:=by decide+kernel
def kAt (o:Option CRow) (i:Nat):Int:=match o with
 |none=>0
 |some r=>if i=0 then r.k0 else if i=1 then r.k1 else if i=2 then r.k2 else r.k3
def denB (o:Option CRow):Nat→Bool
 |0=>!o.isSome
 |i+1=>denB o i||decide (kAt o i≠0)
def wantOf (o:Option CRow):Int:=if o.isSome=true then 22 else 38
theorem denied_of (labels:List (Str×Nat)) {num:Int} (h:denB (ofNum num tab) 4=true) {F:Fixed} (hF:F.calls=libCalls labels):denied F num (wantOf (ofNum num tab)):=by
 unfold denied
 rw[hF,rowOf_lib]
 cases e:ofNum num tab with
 |none=>rfl
 |some r=>
  rw[e] at h
  have h3:=of_decide_eq_true (List.all_eq_true.1 tab_k3 r (ofNum_mem e))
  simp[denB,kAt] at h
  refine ⟨rfl,?_⟩
  show r.k0≠0∨r.k1≠0∨r.k2≠0
  omega
theorem want_ne (o:Option CRow):wantOf o≠0:=by unfold wantOf;split<;>decide
theorem den_may {hh num:Int} (h0:0≤hh∧hh<18446744073709551616) (hn:0≤num∧num<1000): ∀x∈denC hh num,mayK x (denC hh num).length false=true∧U64 x.v:=by
 have hl:((denC hh num).length:Int)=5:=rfl
 rw[hl]
 intro x hx
 unfold denC denC.setI' at hx
 simp only[List.mem_cons,List.not_mem_nil,or_false] at hx
 rcases hx with rfl|rfl|rfl|rfl|rfl
 ·exact ⟨rfl,h0⟩
 ·exact ⟨rfl,h0⟩
 ·exact ⟨rfl,h0⟩
 ·refine ⟨?_,hn.1,by show num<_;omega⟩
  have:decide (num<1000)=true:=decide_eq_true hn.2
  simp[mayK,numOk,hn.2,regOk,hasA,hasB,hasC]
 ·exact ⟨rfl,by decide,by decide⟩
end Go.Proofs.YtaangaogmnlljaaGreatDoor.Kn
