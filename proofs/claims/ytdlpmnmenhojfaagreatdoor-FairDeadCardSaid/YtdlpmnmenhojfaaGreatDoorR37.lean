/- Part 37 of what the proof stands on: KnPickW, KnMini, FdT, KnDenD, FdK, FdL, FdH, FdU, KnTickL, FdTk, FdDo, FdDh, FdD3, FdD2, FdDx, FdD6. -/
import Derived.Test.YtdlpmnmenhojfaaGreatDoorR32
import Derived.Test.YtdlpmnmenhojfaaGreatDoorR36
set_option linter.unusedVariables false
set_option maxHeartbeats 40000000
set_option maxRecDepth 100000
variable {zP:Prop}
namespace Go.Proofs.YtdlpmnmenhojfaaGreatDoor
open Go.IntKind renaming i64->Z,u64->J
open Go.Value renaming int->E,pointer->Y,slice->Sl
open Option renaming none->O,some->V
open Go.Obj renaming cells->Ce
open Go.Ending renaming returned->Rt
open Go.Proofs.Tryz renaming prog->Tp
namespace Kn
open Go.RowKit Asm
section
variable {F:Fixed} {w:World} {own:Own} {G:KG} {M:zD} {n:Nat}
theorem zoP (h:zi F w own G M n) {i:Nat} (hi:i<F.workers) (hs:(zl M i).slot=0) {Q:World→Prop}
  (HO:Calls Tp 116 #[Y (V ⟨G.K,0,O⟩),Y (V ⟨G.gW,i*38,O⟩)] w fun e w'=>e=Rt (.tuple #[])∧Q w'):
  Calls Tp 60 #[Y (V ⟨G.K,0,O⟩),Y (V ⟨G.gW,i*38,O⟩)] w fun e w'=>e=Rt (.tuple #[])∧Q w':=by
 have c0:=(h.vU hi).1;rw[hs] at c0;have HO:=Y0 HO;clear h hs;go_enter Tryz.func60,Tryz.ntmps60;go_wp2_with fail;refine HO.out.mono ?_;rintro e w1 ⟨rfl,hq⟩;have HQ:=Y0 hq;clear hq;go_wp2_with fail;exact bodyPost_ret (results_none rfl _ _ _) rfl ⟨rfl,HQ.out⟩
theorem zi.zsQ (h:zi F w own G M n) {id:Int} {r:Run} (hr:zR M.runs id=some r) (hne:r.l≠ []) {l:Nat} (hll:r.l.length=l+1):w.cell? ⟨G.fb id l,34,O⟩=V (.bool (zZ r).lib):=by
 exact J91
def Vp (k:Int):Int:=if 1≤k then k - 1 else 0
theorem zqh {k:Int} (h:0≤k∧k≤100):max (k - 1) 0=Vp k∧0≤Vp k∧Vp k≤100:=by
 unfold Vp;by_cases h1:1≤k
 ·rw[if_pos h1];omega
 ·rw[if_neg h1];omega
theorem a95.Q19 (h:zP:=by
 generalize setW M i { zl M i with left:=Vp (zl M i).left}=M1 at*;generalize Vp (zl M i).left=m at*;generalize (zl M i).left=lf at*;clear h hr hne iG hs hll hlen hgl hlc yB hi fw hwk;exact J56):zP:=h
open a95 in
theorem zqn (h:zi F w own G M n) {i:Nat} (hi:i<F.workers) {id:Int} (hs:(zl M i).slot=id) {r:Run} (hr:zR M.runs id=some r) (hne:r.l≠ []) (iG:(zZ r).lib=true) {Q:World→Prop}
  (HC: ∀W,zi F W own G (setW M i { zl M i with left:=Vp (zl M i).left}) n→Touch (fun t=>t≠ .other) w W own own→Calls Tp 118 #[Y (V ⟨G.K,0,O⟩),Y (V ⟨G.gW,i*38,O⟩),Y (V ⟨G.tb id,0,O⟩),Y (V ⟨G.fb id (r.l.length - 1),0,O⟩)] W fun e w'=>e=Rt (.tuple #[])∧Q w'):
  Calls Tp 60 #[Y (V ⟨G.K,0,O⟩),Y (V ⟨G.gW,i*38,O⟩)] w fun e w'=>e=Rt (.tuple #[])∧Q w':=by
 exact J19
theorem a96.Q19 (h:zP:=by
 have hlz:((zl M i).left==0)=false:=beq_eq_false_iff_ne.2 hleft;generalize setW M i { zl M i with left:=Vp (zl M i).left}=M1 at*;generalize Vp (zl M i).left=m at*;generalize (zl M i).left=lf at*;clear h hr hne iG hs hll hlen hgl hlc yB hi fw hwk hleft;exact J56):zP:=h
open a96 in
theorem zr4 (h:zi F w own G M n) {i:Nat} (hi:i<F.workers) {id:Int} (hs:(zl M i).slot=id) {r:Run} (hr:zR M.runs id=some r) (hne:r.l≠ []) (iG:(zZ r).lib=false) (hleft:(zl M i).left≠0) {Q:World→Prop}
  (HC: ∀W,zi F W own G (setW M i { zl M i with left:=Vp (zl M i).left}) n→Touch (fun t=>t≠ .other) w W own own→Calls Tp 119 #[Y (V ⟨G.K,0,O⟩),Y (V ⟨G.gW,i*38,O⟩),Y (V ⟨G.tb id,0,O⟩),Y (V ⟨G.fb id (r.l.length - 1),0,O⟩)] W fun e w'=>e=Rt (.tuple #[])∧Q w'):
  Calls Tp 60 #[Y (V ⟨G.K,0,O⟩),Y (V ⟨G.gW,i*38,O⟩)] w fun e w'=>e=Rt (.tuple #[])∧Q w':=by
 exact J19
end
section
variable {F:Fixed} {w:World} {own:Own} {G:KG} {M:zD} {n:Nat}
theorem za1 {x:zx} (h:zfg x.op=true):x.op=34∨x.op=35∨x.op=36∨x.op=38∨x.op=39∨x.op=40∨x.op=42:=by
 unfold zfg at h;simp only[Bool.or_eq_true,beq_iff_eq] at h;omega
theorem zmc (F:Fixed) (M:zD) (i:Nat) (x:zx) (h:zfg x.op=true):(special F M i none x).2.out=M.out∧(special F M i none x).2.runs=M.runs∧((special F M i none x).1=0∨(special F M i none x).1=1):=by
 rcases za1 h with ho|ho|ho|ho|ho|ho|ho
 ·rw[ztm F M i none x ho];by_cases hz:(zl M i).hand=0
  ·rw[if_pos hz];exact ⟨rfl,rfl,Or.inl rfl⟩
  ·rw[if_neg hz];exact ⟨rfl,rfl,Or.inl rfl⟩
 ·rw[zte F M i none x ho];by_cases hz:(zl M i).hand≠0∧rg (zA M i none) x.a=(zl M i).hand∧(zl M i).slot=0
  ·rw[if_pos hz];exact ⟨rfl,rfl,Or.inl rfl⟩
  ·rw[if_neg hz];exact ⟨rfl,rfl,Or.inl rfl⟩
 ·rw[ztp F M i none x ho];by_cases hz:zam M.mem 0=rg (zA M i none) x.a
  ·rw[if_pos hz];exact ⟨rfl,rfl,Or.inr rfl⟩
  ·rw[if_neg hz];exact ⟨rfl,rfl,Or.inl rfl⟩
 all_goals
  rw[zj4 F M i none x Y1]
  exact ⟨rfl,rfl,Or.inl rfl⟩
theorem zdU (h:zi F w own G M n) {i:Nat} (hi:i<F.workers) {t:Option Int} {b o:Nat} (fa:VZ G M i t b o) (x:zx) (hm:vI x F.lib.length true=true) (hop:zfg x.op=true) (hw:M.w=i):
  Calls Tp 176 #[Y (V ⟨G.K,0,O⟩),Y (V ⟨G.gW,i*38,O⟩),zqG G t,Y (V ⟨b,o,O⟩), .agg (zS x)] w (zcI F w own G M n (special F M i t x)):=by
 have hops:=za1 hop;by_cases h36:x.op=36
 ·exact zi9 h hi fa x hm h36
 ·by_cases ht2:x.op=40∨x.op=42∨x.op=38∨x.op=39
  ·exact zdP h hi fa x hm Y1 hw
  ·obtain ⟨aC,h1,t1⟩:=h.inB x;obtain ⟨ha,-,-,-,-⟩:=Kz hm;have fin: ∀{M':zD} {n':Nat} {w':World},n'≤n+2→KO F (Kn.boxed w x) aC G M' n' w'→Gp F w own G M.runs M' (n+2) w':=fun hn' k=>((KO.trans t1 k).more hn').two;have RD:x.op=34∨x.op=35:=Y1;rcases RD with ho|ho
   ·rw[ztm F M i t x ho];by_cases hz:(zl M i).hand=0
    ·rw[if_pos hz];exact Jw x Y1 (Q:=fun w'=>Gp F w own G M.runs _ (n+2) w') ((zmH h1 hi fa x ho ha hz).mono fun e w' ⟨a,k⟩=>⟨a,fin Y1 k⟩)
    ·rw[if_neg hz];exact Jw x Y1 (Q:=fun w'=>Gp F w own G M.runs _ (n+2) w') ((zmG h1 hi fa x ho ha hz).mono fun e w' ⟨a,k⟩=>⟨a,fin Y1 k⟩)
   ·rw[zte F M i t x ho];exact Jw x Y1 (Q:=fun w'=>Gp F w own G M.runs _ (n+2) w') ((zqw h1 hi fa x ho ha).mono fun e w' ⟨a,k⟩=>⟨a,fin Y1 k⟩)
theorem zkH (h:zi F w own G M n) {i:Nat} (hi:i<F.workers) (hw:M.w=i) (hn:n≤60000) (hf:M.out.length<900000) {x:zx} (hx:Zc F.lib (zA M i none).pc=some x) (hok:(zK (zA M i none) F.lib M.mem).how=0∨((zK (zA M i none) F.lib M.mem).how=1∧zfg x.op=true)) {w0:World} (hw0:w=w0.setCell ⟨G.gW,i*38+2,O⟩ (.bool false)) (hu: ∃u,w0.cell? ⟨G.gW,i*38+2,O⟩=some u) (hfz:w0.frozen? ⟨G.gW,i*38+2,O⟩=false):
  Calls Tp 116 #[Y (V ⟨G.K,0,O⟩),Y (V ⟨G.gW,i*38,O⟩)] w0 fun e w'=>e=Rt (.tuple #[])∧Gp F w own G M.runs (if (library F M i none).1=2∨(library F M i none).1=3 then again F (library F M i none).2 i else (library F M i none).2) (n+6) w':=by
 have fa:VZ G M i none G.gW (i*38+4):=⟨rfl,rfl⟩;have HS:=zfj h hi fa Y1;have iW:=h.fok.libs;have dB:=h.runs.nod;have hwl:i<M.wkrs.length:=h.bV hi;have hxe:(Zc F.lib (zA M i none).pc).getD Gw=x:=by rw[hx];rfl
 rw[hw0] at HS;rcases hok with e|⟨e,hop⟩
 ·obtain ⟨x2,hx2,-,hmx⟩:=zfw (m:=M.mem) iW (f:=zA M i none) Y84;obtain rfl:x=x2:=Option.some.inj (hx.symm.trans hx2);rw[zj2 e,hxe];simp only[Option.getD_none];rw[if_neg Y2];rw[hxe,e] at HS;have Fp:VZ G { M with mem:=(zK (zA M i none) F.lib M.mem).mem} i none G.gW (i*38+4):=fa;have hg:=JO (M:={ M with mem:=(zK (zA M i none) F.lib M.mem).mem}) dB hwl Fp (zK (zA M i none) F.lib M.mem).f;have fa2:VZ G (Zu { M with mem:=(zK (zA M i none) F.lib M.mem).mem} i none (zK (zA M i none) F.lib M.mem).f) i none G.gW (i*38+4):=⟨rfl,rfl⟩;have hout:(Zu { M with mem:=(zK (zA M i none) F.lib M.mem).mem} i none (zK (zA M i none) F.lib M.mem).f).out=M.out:=(GD _ _ _ _).2;generalize Zu { M with mem:=(zK (zA M i none) F.lib M.mem).mem} i none (zK (zA M i none) F.lib M.mem).f=M1 at*
  generalize (zK (zA M i none) F.lib M.mem).f=f1 at*;refine zpI x hu hfz HS (fun w1 hp=>?_);rw[←hw0] at hp;obtain ⟨aC,h1,t1,-⟩:=hp.boxed x;have:=GH h1.drew hi fa2 0 x hmx (by rw[hout];omega);rw[hg] at this;exact this.mono fun e' w' ⟨a,k⟩=>⟨a,((KO.trans (t1.trans (Zv _ _)) k).more Y1).two⟩
 ·obtain ⟨x2,hx2,hxl,hmx,h23,Da⟩:=zdL iW e;obtain rfl:x=x2:=Option.some.inj (hx.symm.trans hx2);have h57:x.op≠57:=fun q=>by have:=za1 hop;omega
  have hst:=jm (zA M i none) F.lib M.mem Y84;have hself:=h.JJ hi fa;rw[hxe,hst.1,hst.2,e] at HS;have hM:Zu { M with mem:=M.mem} i none (zA M i none)=M:=hself;rw[hM,←hw0] at HS;obtain ⟨hG,hrs,h3⟩:=zmc F M i x hop;have hsp: ∀w1,KO F w own G M (n+1) w1→Calls Tp 176 #[Y (V ⟨G.K,0,O⟩),Y (V ⟨G.gW,i*38,O⟩),Y none,Y (V ⟨G.gW,i*38+4,O⟩), .agg (zS x)] (Kn.boxed w1 x).drew fun e w'=>e=Rt (E Z (special F M i none x).1)∧(∃tb fb own',JX G tb fb M.runs∧zi F w' own' { G with tb:=tb,fb:=fb} (special F M i none x).2 (n+3)∧Touch (fun t=>t≠ .other) w w' own own'∧zX w' own' w1.heap.size (zS x) 111):=fun w1 hp=>by
   obtain ⟨aC,h1,t1,b1⟩:=hp.boxed x;refine (zdU h1.drew hi fa x hmx hop hw).mono fun e' w' hq=>?_;exact zwc
  rw[hw0] at HS;rw[zeY e hx h57];generalize hpe:special F M i none x=p at*;obtain ⟨c,M2⟩:=p;simp only at hsp hG hrs h3 ⊢;rcases h3 with h3|h3
  ·subst h3;have nJ:vM M M2:=vM.of hrs;simp only[if_true,Option.getD_none];rw[if_neg Y2];refine zl5 x hu hfz HS (fun w1 hp=>hsp w1 (by rw[hw0];exact hp)) (fun w1 w2 hp hp2=>?_);obtain ⟨tb,fb,vQ,hg,h5,t5,b5⟩:=hp2;have fa5:=fa.sp hg nJ;obtain ⟨c0,c1,c2,k6⟩:=h5.bump hi fa5;have hne2:=h5.zau hi fa5 b5.2;refine ⟨⟨_,c0,⟨c1.1,by omega⟩,c2,?_⟩,b5.seven,hne2⟩;obtain ⟨iK,h6,t6⟩:=k6;have fa6:VZ { G with tb:=tb,fb:=fb} (VQ M2 i none) i none G.gW (i*38+4):=⟨rfl,rfl⟩;have ho:(VQ M2 i none).out=M2.out:=(GD _ _ _ _).2;refine (GH h6.drew hi fa6 0 x hmx (by rw[ho,hG];omega)).mono fun e' w' ⟨a,k⟩=>⟨a,tb,fb,hg,?_⟩
   exact (KO.trans ((t5.trans t6).trans (Zv _ _)) k).more Y1
  ·subst h3;simp only[Int.reduceEq,if_false,if_true];rw[if_neg Y2];refine zm3 x hu hfz HS (fun w1 hp=>hsp w1 (by rw[hw0];exact hp)) (fun w1 w2 hp hp2=>?_);obtain ⟨tb,fb,vQ,hg,h5,t5,b5⟩:=hp2;exact ⟨tb,fb,hg,vQ,h5.more Y1,t5⟩
theorem zo1 (h:zi F w own G M n) {i:Nat} (hi:i<F.workers) (hw:M.w=i) (hn:n≤60000) (hf:M.out.length<900000) {x:zx} (hx:Zc F.lib (zA (setW M i { zl M i with parked:=false}) i none).pc=some x)
  (hok:(zK (zA (setW M i { zl M i with parked:=false}) i none) F.lib M.mem).how=0∨((zK (zA (setW M i { zl M i with parked:=false}) i none) F.lib M.mem).how=1∧zfg x.op=true)):
  Calls Tp 116 #[Y (V ⟨G.K,0,O⟩),Y (V ⟨G.gW,i*38,O⟩)] w fun e w'=>e=Rt (.tuple #[])∧Gp F w own G M.runs (zvb F M i) (n+6) w':=by
 obtain ⟨-,-,q2,-,q3⟩:=h.vU hi;have hp:=h.jB hi (j:=2) Y2 (v:= .bool false) (k':={ zl M i with parked:=false}) rfl rfl (h.Ja hi).slot (h.Ja hi).hand (h.Ja hi).left;have:=zkH hp.1 hi hw hn hf hx hok rfl ⟨_,q2⟩ (q3 _);refine this.mono fun e w' ⟨a,tb,fb,hg,k⟩=>⟨a,tb,fb,hg,?_⟩
 exact KO.trans (hp.2.mono fun t e=>by rw[e];nofun) k
theorem zbb (h:zi F w own G M n) {i:Nat} (hi:i<F.workers) {t:Option Int} {b o:Nat} (fa:VZ G M i t b o) (hn:n≤100000) (id sop:Int) {x:zx} (hx:Zc F.code (zA M i t).pc=some x) (ho: ¬(17≤x.op∧x.op≤21)):
  Calls Tp 180 #[Y (V ⟨b,o,O⟩),G.pv, .iface 337 (shV G.K id sop)] w fun e w'=>(∃ev,e=Rt (.tuple #[E Z (zK (zA M i t) F.code M.mem).how,ev]))∧KO F w own G (Zu M i t (zK (zA M i t) F.code M.mem).f) (n+1) w':=by
 obtain ⟨ty,P,S,tb,tk,bv,hf⟩:=h.frame hi fa;obtain ⟨g,c,hlv,hc,hgo,hg⟩:=h.fix.code.zbU h.fok.code.1;have hl:=h.fok.code.2;have hmay:=h.fok.codes;have hv:=h.fok.codev;have hM:=h.mem;rw[hlv];have hO:=(vH (hmay x (zlY hx))).1;have fin: ∀(e:Ending) (w':World),e=Rt (.tuple #[E Z (zK (zA M i t) F.code M.mem).how, .nilIface])∧Zd w own b o ty P S tb tk (n+1) (zK (zA M i t) F.code M.mem).f w'→(∃ev,e=Rt (.tuple #[E Z (zK (zA M i t) F.code M.mem).how,ev]))∧KO F w own G (Zu M i t (zK (zA M i t) F.code M.mem).f) (n+1) w':=fun e w' ⟨a,c⟩=>⟨⟨_,a⟩,hf.out hM (Nat.le_succ n) c⟩
 exact J78
theorem zex (h:zi F w own G M n) {i:Nat} (hi:i<F.workers) {id:Int} {b:Nat} {r:Run} (hr:zR M.runs id=some r) (hne:r.l≠ []) (fa:VZ G M i (some id) b 0) (hn:n≤60000) {x:zx} (hx:Zc F.code (zA M i (some id)).pc=some x) (ho: ¬(17≤x.op∧x.op≤21)) (h22:x.op≠22) (h16:x.op≠16) (e:(zK (zA M i (some id)) F.code M.mem).how=0):
  Calls Tp 119 #[Y (V ⟨G.K,0,O⟩),Y (V ⟨G.gW,i*38,O⟩),Y (V ⟨G.tb id,0,O⟩),Y (V ⟨b,0,O⟩)] w fun e w'=>e=Rt (.tuple #[])∧Gp F w own G [] (VN F M i id) (n+3) w':=by
 have dB:=h.runs.nod;have hxe:(Zc F.code (zA M i (some id)).pc).getD Gw=x:=by rw[hx];rfl
 rw[zb4 hx ho h22 (fun q=>h16 q.1),e,if_neg Y2];obtain ⟨r2,hr2,-⟩:=zd4 (M:=M) dB i (some id) (zK (zA M i (some id)) F.code M.mem).f id r hr hne;refine (zn1 h hi fa x hxe Y1 (n2:=n+1) hr hr2 (fun W own' hW=>?_)).mono fun e w' q=>⟨q.1,((q.2.more Y1).two (l:= []))⟩
 have:=zbb hW hi fa Y1 id x.op hx ho;rw[e] at this;exact this
end
section
variable {F:Fixed} {w:World} {own:Own} {G:KG} {M:zD} {n:Nat}
def okT (op:Int):Bool:=op==43||op==45||op==58
theorem zeF {op:Int} (h:okT op=true):op=43∨op=45∨op=58:=by
 unfold okT at h;simp only[Bool.or_eq_true,beq_iff_eq] at h;omega
theorem zkC (h:zi F w own G M n) {i:Nat} (hi:i<F.workers) {id:Int} {r:Run} (hr:zR M.runs id=some r) (h2:2≤r.l.length) {b o:Nat} (fa:VZ G M i (some id) b o) (x:zx) (hm:vI x F.lib.length true=true) (hv:Zm x.v) (hop:okT x.op=true) (hn:n≤80000) (hf:M.out.length<999000):
  Calls Tp 176 #[Y (V ⟨G.K,0,O⟩),Y (V ⟨G.gW,i*38,O⟩),zqG G (some id),Y (V ⟨b,o,O⟩), .agg (zS x)] w (zcI F w own G M n (special F M i (some id) x)):=by
 obtain ⟨aC,h1,t1⟩:=h.inB x;obtain ⟨ha,hb,hc,hbb,hcc⟩:=Kz hm;have fin: ∀{M':zD} {n':Nat} {w':World},n'≤n+2→KO F (Kn.boxed w x) aC G M' n' w'→Gp F w own G M.runs M' (n+2) w':=fun hn' k=>((KO.trans t1 k).more hn').two;rcases zeF hop with ho|ho|ho
 ·rw[ztk F M i (some id) x ho];rcases hb with hb|hb
  ·rw[if_neg (show¬(0≤x.b) by omega)];exact jd x Y1 (Q:=fun w'=>Gp F w own G M.runs _ (n+2) w') ((zjk h1 hi fa x ho ha hb hv).mono fun e w' ⟨a,k⟩=>⟨a,fin Y1 k⟩)
  ·rw[if_pos hb.1];exact jd x Y1 (Q:=fun w'=>Gp F w own G M.runs _ (n+2) w') ((zhH h1 hi fa x ho ha hb).mono fun e w' ⟨a,k⟩=>⟨a,fin Y1 k⟩)
 ·rw[ztn F M i (some id) x ho];exact jd x Y1 (Q:=fun w'=>Gp F w own G M.runs _ (n+2) w') ((zlK h1 hi fa x ho ha (hbb (by rw[ho];rfl)) hv Y1).mono fun e w' ⟨a,k⟩=>⟨a,fin Y1 k⟩)
 ·rw[zoh F M i x id Y1,ztr F M i x id ho];exact znz x Y1 (Q:=fun w'=>Gp F w own G M.runs _ (n+2) w') ((zgV h1 hi rfl hr fa x ho h2 Y1).mono fun e w' ⟨a,k⟩=>⟨a,fin Y1 k⟩)
theorem zh9 (M:zD) (id c v:Int):(answer M id c v).out.length≤M.out.length+1:=by
 unfold answer;split
 ·omega
 ·unfold returned;split
  ·unfold GU;split<;>exact Nat.le_succ _
  ·have:(GU M id).out=M.out:=by unfold GU;split<;>rfl
   unfold tell;simp[this]
theorem zbv (F:Fixed) {M:zD} (hn:(M.runs.map (·.id)).Nodup) (i:Nat) (id:Int) (x:zx) (hop:okT x.op=true):((special F M i (some id) x).1=0→vM M (special F M i (some id) x).2)∧(special F M i (some id) x).2.out.length≤M.out.length+1∧((special F M i (some id) x).1=0∨(special F M i (some id) x).1=1):=by
 have po: ∀(M':zD) (a v:Int),(zG M' i (some id) a v).out=M'.out:=fun M' a v=>(GD _ _ _ _).2;rcases zeF hop with ho|ho|ho
 ·rw[ztk F M i (some id) x ho];generalize (if 0≤x.b then rg (zA M i (some id)) x.b else x.v)=k;by_cases hk:k≤4096
  ·rw[if_pos hk]
   cases kL M.alc M.mem k.toNat 64 with
   |none=>exact ⟨fun _=>zbV (.refl M) hn _ _ _ _,by simp only[po];omega,Or.inl rfl⟩
   |some p=>obtain ⟨at',alc,mem⟩:=p;exact ⟨fun _=>zbV (M':={ M with alc:=alc,mem:=mem}) (.of rfl) hn _ _ _ _,by simp only[po];omega,Or.inl rfl⟩
  ·rw[if_neg hk];exact ⟨fun _=>zbV (.refl M) hn _ _ _ _,by simp only[po];omega,Or.inl rfl⟩
 ·rw[ztn F M i (some id) x ho];by_cases hk:x.v≤6
  ·rw[if_pos hk];exact ⟨fun _=>zbV (M':={ M with objs:=(kg M.objs x.v (rg (zA M i (some id)) x.b)).2}) (.of rfl) hn _ _ _ _,by simp only[po];omega,Or.inl rfl⟩
  ·rw[if_neg hk];exact ⟨fun _=>zbV (.refl M) hn _ _ _ _,by simp only[po];omega,Or.inl rfl⟩
 ·rw[zoh F M i x id Y1,ztr F M i x id ho];exact ⟨fun q=>absurd (show (1:Int)=0 from q) Y2,zh9 _ _ _ _,Or.inr rfl⟩
theorem zng (h:zi F w own G M n) {i:Nat} (hi:i<F.workers) {id:Int} {r:Run} (hr:zR M.runs id=some r) (h2:2≤r.l.length) (hn:n≤60000) (hf:M.out.length<900000) {x:zx} (hx:Zc F.lib (zA M i (some id)).pc=some x)
  (hok:(zK (zA M i (some id)) F.lib M.mem).how=0∨((zK (zA M i (some id)) F.lib M.mem).how=1∧okT x.op=true)):
  Calls Tp 118 #[Y (V ⟨G.K,0,O⟩),Y (V ⟨G.gW,i*38,O⟩),Y (V ⟨G.tb id,0,O⟩),Y (V ⟨G.fb id (r.l.length - 1),0,O⟩)] w fun e w'=>e=Rt (.tuple #[])∧Gp F w own G M.runs (zbY F M i id) (n+6) w':=by
 have hne:r.l≠ []:=fun e=>by rw[e] at h2;simp at h2
 have fa:VZ G M i (some id) (G.fb id (r.l.length - 1)) 0:=⟨r,hr,hne,rfl,rfl⟩;have HS:=zfj h hi fa Y1;have iW:=h.fok.libs;have dB:=h.runs.nod;have hwl:i<M.wkrs.length:=h.bV hi;have hxe:(Zc F.lib (zA M i (some id)).pc).getD Gw=x:=by rw[hx];rfl
 rcases hok with e|⟨e,hop⟩
 ·obtain ⟨x2,hx2,-,hmx⟩:=zfw (m:=M.mem) iW (f:=zA M i (some id)) Y84;obtain rfl:x=x2:=Option.some.inj (hx.symm.trans hx2);have hA:zbY F M i id=Vn (Zu { M with mem:=(zK (zA M i (some id)) F.lib M.mem).mem} i (some id) (zK (zA M i (some id)) F.lib M.mem).f) id (zK (zA M i (some id)) F.lib M.mem).f x:=by
   unfold zbY;rw[zj2 e,hxe];simp
  rw[hxe,e] at HS;rw[hA];have Fp:VZ G { M with mem:=(zK (zA M i (some id)) F.lib M.mem).mem} i (some id) (G.fb id (r.l.length - 1)) 0:=fa;have hg:=JO (M:={ M with mem:=(zK (zA M i (some id)) F.lib M.mem).mem}) dB hwl Fp (zK (zA M i (some id)) F.lib M.mem).f;have fa2:=Fp.Zu dB (zK (zA M i (some id)) F.lib M.mem).f;have hout:(Zu { M with mem:=(zK (zA M i (some id)) F.lib M.mem).mem} i (some id) (zK (zA M i (some id)) F.lib M.mem).f).out=M.out:=(GD _ _ _ _).2;generalize Zu { M with mem:=(zK (zA M i (some id)) F.lib M.mem).mem} i (some id) (zK (zA M i (some id)) F.lib M.mem).f=M1 at*;generalize (zK (zA M i (some id)) F.lib M.mem).f=f1 at*;refine zoB (id:=id) x HS (fun w1 hp=>?_) (fun w1 hp=>?_)
  ·obtain ⟨aC,h1,t1,-⟩:=hp.boxed x;obtain ⟨r1,hr1,-,-⟩:=fa2;exact ⟨(h1.ZB hr1).1,(h1.zel hr1).2⟩
  ·obtain ⟨aC,h1,t1,-⟩:=hp.boxed x;have:=GH h1.drew hi fa2 id x hmx (by rw[hout];omega);rw[hg] at this;exact this.mono fun e' w' ⟨a,k⟩=>⟨a,((KO.trans (t1.trans (Zv _ _)) k).more Y1).two⟩
 ·obtain ⟨x2,hx2,hxl,hmx,h23,Da⟩:=zdL iW e;obtain rfl:x=x2:=Option.some.inj (hx.symm.trans hx2);have hst:=jm (zA M i (some id)) F.lib M.mem Y84;have hself:=h.JJ hi fa;have nK:=h.fok.libv x hxl;rw[hxe,hst.1,hst.2,e] at HS;have hM:Zu { M with mem:=M.mem} i (some id) (zA M i (some id))=M:=hself;rw[hM] at HS;have h57:x.op≠57:=fun q=>by have:=zeF hop;omega
  have hA:=zeY (F:=F) e hx h57;obtain ⟨hrs,hol,h3⟩:=zbv F dB i id x hop;have hsp: ∀w1,KO F w own G M (n+1) w1→Calls Tp 176 #[Y (V ⟨G.K,0,O⟩),Y (V ⟨G.gW,i*38,O⟩),Y (V ⟨G.tb id,0,O⟩),Y (V ⟨G.fb id (r.l.length - 1),0,O⟩), .agg (zS x)] (Kn.boxed w1 x).drew fun e w'=>e=Rt (E Z (special F M i (some id) x).1)∧(∃tb fb own',JX G tb fb M.runs∧zi F w' own' { G with tb:=tb,fb:=fb} (special F M i (some id) x).2 (n+3)∧Touch (fun t=>t≠ .other) w w' own own'∧zX w' own' w1.heap.size (zS x) 111):=fun w1 hp=>by
   obtain ⟨aC,h1,t1,b1⟩:=hp.boxed x;refine (zkC h1.drew hi hr h2 fa x hmx nK hop Y1 Y1).mono fun e' w' hq=>?_;exact zwc
  unfold zbY;rw[hA];generalize hpe:special F M i (some id) x=p at*;obtain ⟨c,M2⟩:=p;simp only at hsp hol hrs h3 ⊢;rcases h3 with h3|h3
  ·subst h3;have nJ:=hrs rfl;simp only[if_true];rw[if_neg Y2];refine zlh (id:=id) x HS hsp (fun w1 w2 hp hp2=>?_);obtain ⟨tb,fb,vQ,hg,h5,t5,b5⟩:=hp2;have fa5:=fa.sp hg nJ;obtain ⟨c0,c1,c2,k6⟩:=h5.bump hi fa5;have hne2:=h5.zau hi fa5 b5.2;obtain ⟨r5,oH,hne5,-,-⟩:=fa5;have hth:=h5.ZB oH;have htb:tb id=G.tb id:=by
    have:=(hg r (Za hr).1).1;rw[(Za hr).2] at this;exact this
   have hto:=h5.zel oH;refine ⟨⟨_,c0,⟨c1.1,by omega⟩,c2,?_⟩,b5.seven,hne2,?_,?_⟩
   ·obtain ⟨iK,h6,t6⟩:=k6;have fa6:VZ { G with tb:=tb,fb:=fb} (VQ M2 i (some id)) i (some id) (G.fb id (r.l.length - 1)) 0:=VZ.Zu (fa.sp hg nJ) h5.runs.nod _;have ho:(VQ M2 i (some id)).out=M2.out:=(GD _ _ _ _).2;refine (GH h6.drew hi fa6 id x hmx (by rw[ho];omega)).mono fun e' w' ⟨a,k⟩=>⟨a,tb,fb,hg,?_⟩
    exact (KO.trans ((t5.trans t6).trans (Zv _ _)) k).more Y1
   ·have:=hth.1;rw[show ({ G with tb:=tb,fb:=fb}:KG).tb id=tb id from rfl,htb] at this;exact this
   ·intro e5;have q1:=hto.1;rw[show ({ G with tb:=tb,fb:=fb}:KG).tb id=tb id from rfl,htb,e5] at q1;obtain ⟨ty,P,S,tg,tk,bv,hfr⟩:=h5.frame hi (fa.sp hg nJ);have q2:=hfr.fr.mine;obtain ⟨Oj,hfr2,-⟩:=h5.JC oH (zaS hne5);have q3:=hfr2.mine;have hlen:fb id (r5.l.length - 1)=G.fb id (r.l.length - 1):=by
     obtain ⟨r6,k1,k2⟩:=nJ id r hr hne;have:r6=r5:=by
      rw[oH] at k1;exact (Option.some.inj k1).symm
     subst this;rw[k2];have:=(hg r (Za hr).1).2 (r.l.length - 1) Y1;rw[(Za hr).2] at this;exact this
    rw[show ({ G with tb:=tb,fb:=fb}:KG).fb id (r5.l.length - 1)=fb id (r5.l.length - 1) from rfl,hlen,q1] at q3;cases q3
  ·subst h3;simp only[Int.reduceEq,if_false,if_true];rw[if_neg Y2];refine zl1 (id:=id) x HS hsp (fun w1 w2 hp hp2=>?_);obtain ⟨tb,fb,vQ,hg,h5,t5,b5⟩:=hp2;exact ⟨tb,fb,hg,vQ,h5.more Y1,t5⟩
theorem zhz (h:zi F w own G M n) {i:Nat} (hi:i<F.workers) {id:Int} {b:Nat} {r:Run} (hr:zR M.runs id=some r) (hne:r.l≠ []) (hl9:r.l.length<99) (fa:VZ G M i (some id) b 0) (hn:n≤60000) (hout:M.out.length<900000) {x:zx} (hx:Zc F.code (zA M i (some id)).pc=some x) (h22:x.op=22) (hv0:0≤x.v∧x.v<1000) (e:(zK (zA M i (some id)) F.code M.mem).how=1):
  Calls Tp 119 #[Y (V ⟨G.K,0,O⟩),Y (V ⟨G.gW,i*38,O⟩),Y (V ⟨G.tb id,0,O⟩),Y (V ⟨b,0,O⟩)] w fun e w'=>e=Rt (.tuple #[])∧Gp F w own G [] (VN F M i id) (n+3) w':=by
 have dB:=h.runs.nod;have hself:=h.JJ hi fa;have hxe:(Zc F.code (zA M i (some id)).pc).getD Gw=x:=by rw[hx];rfl
 rw[zeI hx h22];obtain ⟨r2,hr2,hl2⟩:=zd4 (M:=M) dB i (some id) { zA M i (some id) with pc:=(zA M i (some id)).pc+1} id r hr hne;have hne2:r2.l≠ []:=fun e=>hne (by rw[←List.length_eq_zero_iff,←hl2,e];rfl);have fa2:VZ G (VQ M i (some id)) i (some id) b 0:=VZ.Zu fa dB _;have eO:(VQ M i (some id)).out=M.out:=(GD _ _ _ _).2;refine znP h hi fa x hxe Y1 (M2:=M) (n2:=n+1) hr hr fa Y1 hv0 (Q:=fun w'=>Gp F w own G [] (bD F (VQ M i (some id)) id x.v) (n+3) w') (fun W o hW tW=>?_) (fun W own' hW=>?_)
 ·refine (zn2 hW hi hr2 hne2 Y1 fa2 x.v hv0 (by rw[eO];omega)).mono fun e w' q=>⟨q.1,((Gp.from tW q.2).nil.more Y1)⟩
 ·have:=zbb hW hi fa Y1 id x.op hx Y1;have hst:=(jm (zA M i (some id)) F.code M.mem Y84).1;rw[e,hst,hself] at this;exact this
end
section
variable {F B0:Fixed} {w:World} {own:Own} {G:KG} {n:Nat} {hh num c:Int}
theorem zoe {A:zD} (h:znw F A=true): ∃x,Zc F.lib (zA A 0 none).pc=some x∧((zK (zA A 0 none) F.lib A.mem).how=0∨((zK (zA A 0 none) F.lib A.mem).how=1∧zfg x.op=true)):=by
 unfold znw at h
 have eg:zA A 0 none=(zl A 0).f:=rfl
 rw[eg]
 cases hx:Zc F.lib (zl A 0).f.pc with
 |none=>rw[hx] at h;cases h
 |some x=>
  rw[hx] at h
  simp only[Bool.or_eq_true,Bool.and_eq_true,beq_iff_eq] at h
  exact ⟨x,rfl,h⟩
end
section
variable {F:Fixed} {w:World} {own:Own} {G:KG} {M:zD} {n:Nat}
def ztz (F:Fixed) (A:zD) (id:Int):Bool:=match Zc F.code (zA A 0 (some id)).pc with
 |none=>false
 |some x=>if x.op=22 then decide (0≤x.v)&&decide (x.v<1000)&& (zK (zA A 0 (some id)) F.code A.mem).how==1
  else (x.op==1||x.op==2)&& (zK (zA A 0 (some id)) F.code A.mem).how==0
def zqo (F:Fixed) (A:zD) (id:Int):Bool:=match Zc F.lib (zA A 0 (some id)).pc with
 |none=>false
 |some x=>(zK (zA A 0 (some id)) F.lib A.mem).how==0||((zK (zA A 0 (some id)) F.lib A.mem).how==1&&okT x.op)
def bG (F:Fixed) (A:zD):Bool:=
 if (zl A 0).slot=0 then znw F (setW A 0 { zl A 0 with parked:=false})
 else match zR A.runs (zl A 0).slot with
  |none=>false
  |some r=>if (zZ r).lib=false then decide (0<r.l.length)&&decide (r.l.length<90)&& (zl A 0).left !=0&&ztz F (setW A 0 { zl A 0 with left:=Vp (zl A 0).left}) r.id
   else decide (2≤r.l.length)&&zqo F (setW A 0 { zl A 0 with left:=Vp (zl A 0).left}) r.id
theorem zur (h:zi F w own G M n) (hF:0<F.workers) (hc:bG F M=true) (hw:M.w=0) (hn:n≤60000) (hout:M.out.length<900000):
  Calls Tp 60 #[Y (V ⟨G.K,0,O⟩),Y (V ⟨G.gW,0*38,O⟩)] w fun e w'=>e=Rt (.tuple #[])∧Gp F w own G [] (kY F M 0) (n+6) w':=by
 unfold bG at hc;by_cases hs:(zl M 0).slot=0
 ·rw[if_pos hs] at hc;have e:kY F M 0=zvb F M 0:=by
   unfold kY zvb;simp only;rw[if_pos hs]
  rw[e];obtain ⟨x,hx,hok⟩:=zoe hc;exact (zoP h hF hs (zo1 h hF hw hn hout hx hok)).mono fun e w' q=>⟨q.1,q.2.nil⟩
 ·rw[if_neg hs] at hc
  cases hr:zR M.runs (zl M 0).slot with
  |none=>simp[hr] at hc
  |some r=>
   rw[hr] at hc;simp only at hc;have hid:=(Za hr).2;have hr':zR M.runs r.id=some r:=by rw[hid];exact hr
   by_cases hl:(zZ r).lib=false
   ·rw[if_pos hl] at hc
    simp only[Bool.and_eq_true,decide_eq_true_eq,bne_iff_ne,ne_eq] at hc
    obtain ⟨⟨⟨h0,h90⟩,hz⟩,hcl⟩:=hc
    have hne:r.l≠ []:=List.length_pos_iff.1 h0
    have e:kY F M 0=VN F (setW M 0 { zl M 0 with left:=Vp (zl M 0).left}) 0 r.id:=by
     unfold kY;simp only;rw[if_neg hs,hr];simp only;rw[if_neg fun q=>hz q.2,if_pos hl];rfl
    rw[e]
    refine zr4 h hF hid.symm hr' hne hl hz (fun W hW tW=>?_)
    have Lg:(setW M 0 { zl M 0 with left:=Vp (zl M 0).left}).out.length<900000:=hout
    have qb:zR (setW M 0 { zl M 0 with left:=Vp (zl M 0).left}).runs r.id=some r:=hr'
    generalize setW M 0 { zl M 0 with left:=Vp (zl M 0).left}=B at*
    have fa:VZ G B 0 (some r.id) (G.fb r.id (r.l.length - 1)) 0:=⟨r,qb,hne,rfl,rfl⟩
    have fin: ∀{e:Ending} {w':World},(e=Rt (.tuple #[])∧Gp F W own G [] (VN F B 0 r.id) (n+3) w')→e=Rt (.tuple #[])∧Gp F w own G [] (VN F B 0 r.id) (n+6) w':=fun q=>⟨q.1,(Gp.from tW q.2).more Y1⟩
    unfold ztz at hcl
    cases hx:Zc F.code (zA B 0 (some r.id)).pc with
    |none=>simp[hx] at hcl
    |some x=>
     rw[hx] at hcl;simp only at hcl;by_cases h22:x.op=22
     ·rw[if_pos h22] at hcl;simp only[Bool.and_eq_true,decide_eq_true_eq,beq_iff_eq] at hcl;exact (zhz hW hF qb hne Y1 fa hn Lg hx h22 hcl.1 hcl.2).mono fun e w' q=>fin q
     ·rw[if_neg h22] at hcl;simp only[Bool.and_eq_true,Bool.or_eq_true,beq_iff_eq] at hcl;exact (zex hW hF qb hne fa hn hx Y1 h22 Y1 hcl.2).mono fun e w' q=>fin q
   ·rw[if_neg hl] at hc
    simp only[Bool.and_eq_true,decide_eq_true_eq] at hc
    obtain ⟨h2,hlb⟩:=hc
    have hne:r.l≠ []:=fun e=>by rw[e] at h2;simp at h2
    have hl':(zZ r).lib=true:=by simpa using hl
    have e:kY F M 0=zbY F (setW M 0 { zl M 0 with left:=Vp (zl M 0).left}) 0 r.id:=by
     unfold kY;simp only;rw[if_neg hs,hr];simp only;rw[if_neg fun q=>hl q.1,if_neg hl];rfl
    rw[e]
    refine zqn h hF hid.symm hr' hne hl' (fun W hW tW=>?_)
    have Lg:(setW M 0 { zl M 0 with left:=Vp (zl M 0).left}).out.length<900000:=hout
    have qb:zR (setW M 0 { zl M 0 with left:=Vp (zl M 0).left}).runs r.id=some r:=hr'
    generalize setW M 0 { zl M 0 with left:=Vp (zl M 0).left}=B at*
    unfold zqo at hlb
    cases hx:Zc F.lib (zA B 0 (some r.id)).pc with
    |none=>simp[hx] at hlb
    |some x=>
     rw[hx] at hlb;simp only[Bool.or_eq_true,Bool.and_eq_true,beq_iff_eq] at hlb;exact (zng hW hF qb h2 hn Lg hx hlb).mono fun e w' q=>⟨q.1,(Gp.from tW q.2).nil⟩
end
end Kn
namespace Kn
open Asm Hp PosTab
def Jo (A M:zD):Prop:= ∃(e:Int) (c:bJ) (d:Int) (o:List Ev) (v p:Int),M={ A with entries:=e,clk:=c,pos:=p,draw:=d,out:=o,w:=v}
theorem Jo.refl (A:zD):Jo A A:=⟨A.entries,A.clk,A.draw,A.out,A.w,A.pos,rfl⟩
section
variable {F:Fixed} {A M:zD}
theorem zrd (h:jF F (jH A)=true) (hF:F.workers=1) (hM:Jo A M) (x:Entry) (hk:x.kind=1) (hw:x.w=0):
  kX F M x=upd (kY F (jH A) 0) M.entries M.clk x.draw:=by
 obtain ⟨e,c,d,o,v,p,rfl⟩:=hM;unfold kX;simp only;rw[if_neg Y1,if_pos ⟨hk,by omega,by omega⟩,hw];exact znA (e:=e) (c:=c) (d:=x.draw) h
theorem zdS (h:jF F (jH A)=true) (hF:F.workers=1) (hM:Jo A M) (x:Entry) (hk:x.kind=1) (hw:x.w=0):
  Jo (zem F A) (kX F M x)∧(kX F M x).entries=M.entries+1∧(kX F M x).clk=M.clk∧(kX F M x).out=(kY F (jH A) 0).out.map fun y=>{ y with pos:=M.entries}:=by
 rw[zrd h hF hM x hk hw];exact ⟨⟨_,_,_,_,_,_,rfl⟩,rfl,rfl,rfl⟩
theorem zrN (hM:Jo A M) (hc:M.clk.S= []) (x:Entry) (hk:x.kind=2):
  Jo A (kX F M x)∧(kX F M x).entries=M.entries+1∧(kX F M x).clk=M.clk.tick∧(kX F M x).clk.S= []∧(kX F M x).out= [{ kind:=6,v:=M.clk.now+1,pos:=M.entries,w:= -1}]:=by
 obtain ⟨e,c,d,o,v,p,rfl⟩:=hM;have hd:c.due= []:=by
  have h:c.S= []:=hc;unfold bJ.due;rw[h];rfl
 have hS:c.tick.S= []:=by
  have h:c.S= []:=hc;unfold bJ.tick;simp only[h,List.dropWhile_nil]
 have e1:kX F { A with entries:=e,clk:=c,pos:=p,draw:=d,out:=o,w:=v} x=tell { A with entries:=e+1,clk:=c.tick,pos:=e,draw:=x.draw,out:= [],w:= -1} { kind:=6,v:=c.now+1}:=by
  unfold kX;simp only;rw[if_pos hk];unfold zb2;simp only;rw[hd];rfl
 rw[e1];exact ⟨⟨_,_,_,_,_,_,rfl⟩,rfl,rfl,hS,rfl⟩
end
def zjW (F:Fixed):Nat→zD→Bool
 |0,_=>true
 |n+1,A=>bG F (jH A)&&zjW F n (zem F A)
theorem zf4 {F:Fixed}: ∀{n k:Nat},zjW F n (fdS F k)=true→ ∀j<n,bG F (jH (fdS F (k+j)))=true
 |0,_,_,j,hj=>absurd hj (Nat.not_lt_zero _)
 |n+1,k,h,j,hj=>by
  unfold zjW at h
  rw[Bool.and_eq_true] at h
  cases j with
  |zero=>exact h.1
  |succ j=>
   have:=zf4 (n:=n) (k:=k+1) h.2 j Y1
   rwa[show k+1+j=k+(j+1) by omega] at this
def zpx (p:List zx×List (Str×Nat)):Bool:=zjW (FDp p.1 (ZQ p.2) (ZE p.2)) 38 (zdR (FDp p.1 (ZQ p.2) (ZE p.2)) 200 0)
set_option maxRecDepth 1000000 in
theorem zmg:(match Vt (ZM Zy) with|some p=>zpx p|none=>false)=true:=jE
structure jT (F:Fixed) (k t:Nat) (M:zD):Prop where
 like:Jo (fdS F k) M
 ent:M.entries=(k:Int)+(t:Int)
 now:M.clk.now=(t:Int)
 slp:M.clk.S= []
 out:M.out= []
structure zfP (F:Fixed):Prop where
 one:F.workers=1
 jF: ∀k,k<38→jF F (jH (fdS F k))=true
 bG: ∀k,k<38→bG F (jH (fdS F k))=true
 tells: ∀k,k<38→(kY F (jH (fdS F k)) 0).out=zhR k
theorem zuv {code:List zx} {labels:List (Str×Nat)} (hp:Vt (ZM Zy)=V (code,labels)):zfP (FDp code (ZQ labels) (ZE labels)):=by
 have h1:=zpC;rw[hp] at h1;have h2:=zmg;rw[hp] at h2;simp only at h1 h2;have a:=zki (F:=FDp code (ZQ labels) (ZE labels)) (n:=38) (k:=0) h1;have b:=zf4 (F:=FDp code (ZQ labels) (ZE labels)) (n:=38) (k:=0) h2;simp only[Nat.zero_add] at a b;exact ⟨rfl,fun k hk=>(a k hk).1,fun k hk=>b k hk,fun k hk=>(a k hk).2.1⟩
section
variable {F:Fixed} {k t:Nat} {M:zD}
theorem jT.due (h:jT F k t M):M.clk.due= []:=by
 unfold bJ.due;rw[h.slp];rfl
theorem jT.cond (h:jT F k t M) (hA:zfP F) (hk:k<38) (x:Entry):bG F { doS M x with w:=0}=true:=by
 have hc:=hA.bG k hk;obtain ⟨e,c,d,o,v,p,rfl⟩:=h.like;have ho:o= []:=h.out;subst ho;exact hc
theorem jT.pick (h:jT F k t M) (hA:zfP F) (hk:k<38) (x:Entry) (hx:x.kind=1) (hw:x.w=0):
  jT F (k+1) t (doN F M x)∧(kX F M x).out=(zhR k).map fun y=>{ y with pos:=(k:Int)+(t:Int)}:=by
 obtain ⟨⟨e,c,d,o,v,p,q⟩,b1,b2,b3⟩:=zdS (hA.jF k hk) hA.one h.like x hx hw;refine ⟨⟨⟨e,c,d,[],v,p,?_⟩,?_,?_,?_,rfl⟩,?_⟩
 ·unfold doN;rw[q];rfl
 ·show (kX F M x).entries=_;rw[b1,h.ent];omega
 ·show (kX F M x).clk.now=_;rw[b2,h.now]
 ·show (kX F M x).clk.S=_;rw[b2,h.slp]
 ·rw[b3,hA.tells k hk,h.ent]
theorem jT.tick (h:jT F k t M) (x:Entry) (hx:x.kind=2):
  jT F k (t+1) (doN F M x)∧(kX F M x).out= [{ kind:=6,v:=(t:Int)+1,pos:=(k:Int)+(t:Int),w:= -1}]:=by
 obtain ⟨⟨e,c,d,o,v,p,q⟩,b1,b2,b3,b4⟩:=zrN (F:=F) h.like h.slp x hx;refine ⟨⟨⟨e,c,d,[],v,p,?_⟩,?_,?_,?_,rfl⟩,?_⟩
 ·unfold doN;rw[q]
 ·show (kX F M x).entries=_;rw[b1,h.ent];omega
 ·show (kX F M x).clk.now=_;rw[b2];show M.clk.now+1=_;rw[h.now];omega
 ·exact b3
 ·rw[b4,h.now,h.ent]
theorem zhJ (A:zD) (p r0:Int):(Kj A p r0).2.out=A.out∧(Kj A p r0).2.clk=A.clk∧(Kj A p r0).2.entries=A.entries:=by
 unfold Kj
 cases kL A.alc A.mem 1 64 with
 |none=>exact ⟨rfl,rfl,rfl⟩
 |some g=>
  obtain ⟨a,b,m⟩:=g
  simp only
  cases gF A.tab a<;>exact ⟨rfl,rfl,rfl⟩
theorem jT.start (F:Fixed):jT F 0 0 (zdR F 200 0):=by
 obtain ⟨h1,h2,h3⟩:=zhJ (Kk F 200) 0 0;refine ⟨Jo.refl _,?_,?_,?_,?_⟩
 ·show (Kj (Kk F 200) 0 0).2.entries=_;rw[h3];rfl
 ·show (Kj (Kk F 200) 0 0).2.clk.now=_;rw[h2];rfl
 ·show (Kj (Kk F 200) 0 0).2.clk.S=_;rw[h2];rfl
 ·show (Kj (Kk F 200) 0 0).2.out=_;rw[h1];rfl
end
end Kn
namespace Kn
open Go.RowKit Asm Hp
section
variable {F:Fixed} {w:World} {own:Own} {G:KG} {M:zD} {n:Nat}
def zlM (own:Own) (s:Nat) (lv:Value) (t:Tag):Own:=fun b=>if b<s then own b else if lv.ownBlock=some b then .other else t
theorem zsi {s:Nat} {lv:Value} {t:Tag} {b:Nat} (h:b<s):zlM own s lv t b=own b:=if_pos h
theorem znD {s:Nat} {lv:Value} {t:Tag} {b:Nat} (h:s≤b) (e:lv.ownBlock=some b):zlM own s lv t b= .other:=by
 unfold zlM;rw[if_neg Y1,if_pos e]
theorem Gy {s:Nat} {lv:Value} {t:Tag} {b:Nat} (h:own b=t∨s≤b) (e:lv.ownBlock≠some b):zlM own s lv t b=t:=by
 unfold zlM;split
 ·rcases h with h|h
  ·exact h
  ·omega
 ·first
   |rfl
   |rw[if_neg e]
theorem zwl (h:zi F w own G M n) (hn:n≤90000):Calls Tp 110 #[Y (V ⟨G.C,0,O⟩)] w fun e w'=> ∃lv own',e= .returned lv∧zi F w' own' G { M with clk:=M.clk.tick} (n+1)∧Touch (fun t=>t≠ .other) w w' own own'∧Vv w' own' .other 22 1 lv M.clk.due.length (zcc M.clk.due):=by
 obtain ⟨hb,hm,v,ab,N,K,hC,ho,h1,h2,h3,h4,h5⟩:=h.clk;refine (znQ hC Y1 Y1).mono ?_;rintro e w' ⟨lv,rfl,hl,N',hN',v',hC',hk,hv⟩;have hlo: ∀b,lv.ownBlock=some b→w.heap.size≤b:=fun b hb'=>by
  obtain ⟨_,⟨rfl,_⟩ |⟨g,_,_,rfl,q,_⟩⟩:=hl
  ·cases hb'
  ·cases hb';exact q
 have k:Touch (· = .clk) w w' own (zlM own w.heap.size lv .clk):=⟨hk.mono fun b hb'=>ho b hb',fun b hb'=>zsi hb'⟩;have hne: ∀b,OfC G.C hb hm v' ab b→lv.ownBlock≠some b:=fun b hb' e=>Bc hC' hl e hb';have hlen:M.clk.due.length+M.clk.tick.S.length=M.clk.S.length:=by
  have:M.clk.due.length=(M.clk.S.takeWhile fun t=>decide (t.d≤M.clk.now+1)).length:=List.length_map _;rw[this];show _+(M.clk.S.dropWhile _).length=_;rw[←List.length_append,List.takeWhile_append_dropWhile]
 refine ⟨lv,_,rfl,h.zuS k (Nat.le_succ n) ⟨hb,hm,v',ab,N',K,hC',fun b hb'=>?_,?_,by omega,?_,h4,?_⟩,k.mono fun t e=>by rw[e];nofun,?_,fun b hb'=>znD (hlo b hb') hb'⟩
 ·have hne':=hne b hb';rcases hb' with e|e|e|e|e
  ·exact Gy (Or.inl (ho b (Or.inl e))) hne'
  ·exact Gy (Or.inl (ho b (Or.inr (Or.inl e)))) hne'
  ·exact Gy (Or.inl (ho b (Or.inr (Or.inr (Or.inl e))))) hne'
  ·exact Gy (Or.inl (ho b (Or.inr (Or.inr (Or.inr (Or.inl e)))))) hne'
  ·rcases hv b e with e|e
   ·exact Gy (Or.inl (ho b (Or.inr (Or.inr (Or.inr (Or.inr e)))))) hne'
   ·exact Gy (Or.inr e) hne'
 ·omega
 ·show M.clk.last≤_;omega
 ·show M.clk.now+1≤_;omega
 ·exact Asm.Vx hl (Nat.zero_le _)
theorem know (h:zi F w own G M n):Calls Tp 112 #[Y (V ⟨G.C,0,O⟩)] w fun e w'=>e=Rt (E J M.clk.now)∧w'=w:=by
 obtain ⟨hb,hm,v,ab,N,K,hC,-⟩:=h.clk;exact zj5 hC
end
end Kn
namespace Kn
open Go.RowKit Asm
section
variable {F:Fixed} {w:World} {own:Own} {G:KG} {M:zD} {n:Nat}
theorem zkI (h:zi F w own G M n) (hd:M.clk.due= []) (hn:n≤60000) (hf:M.out.length<900000):
  Calls Tp 59 #[Y (V ⟨G.K,0,O⟩)] w fun e w'=>e=Rt (.tuple #[])∧KO F w own G (zb2 M) (n+1) w':=by
 obtain ⟨-,-,k9,-⟩:=h.Vz;have HT:=Y0 (zwl h Y1);have qB:Hid (zb2 M=(Kn.tell { M with clk:=M.clk.tick} { kind:=6,v:=M.clk.now+1})):=Y0 (by unfold zb2;simp only;rw[hd];rfl);have HF:=Y0 hf;have yG:M.clk.tick.now=M.clk.now+1:=rfl;rw[hd] at HT;clear h hf hn hd;go_enter Tryz.func59,Tryz.ntmps59;go_wp2_with fail;refine HT.out.mono ?_;rintro e w1 ⟨lv,aC,rfl,h1,t1,hr⟩;obtain ⟨A,c,rfl⟩:=zn hr.1;obtain ⟨-,-,k9,-⟩:=h1.Vz;have HN:=Y0 (know h1);have ng:=Y0 (KA h1 ⟨6,0,0,0,0,0,0,0,0,M.clk.now+1,0⟩ (by exact Nat.lt_trans HF.out Y2));unfold KW at ng;simp only at ng;have fq:=Y0 t1;have HR:=Y0 hr;rw[show ({ M with clk:=M.clk.tick}:zD).clk.now=M.clk.now+1 from rfl] at HN;clear h1 t1 hr HT;generalize M.clk.now+1=nw at*;go_wp2_with fail;refine HN.out.mono ?_;rintro e w2 ⟨rfl,rfl⟩;go_wp2_with fail
 refine ng.out.mono ?_;rintro e w3 ⟨rfl,dw,h3,t3⟩;have HZ:Hid (KO F w own G (Kn.tell { M with clk:=M.clk.tick} { kind:=6,v:=nw}) (n+1) w3):=Y0 ⟨dw,h3,fq.out.trans t3⟩;clear h3 t3 HR HN ng fq k9 HF;go_wp2_with fail;refine wp_loop_rounds 1 ?_;rw[rounds_succ];go_wp2_with fail;go_end0;exact ⟨rfl,by rw[qB.out];exact HZ.out⟩
end
section
variable {F:Fixed} {w:World} {own:Own} {G:KG} {M:zD} {n:Nat}
theorem zwN (h:zi F w own G M n) (hF:F.workers=1) (hM:M.out= []) (hd:M.clk.due= []) (x:Entry) (hx:Zm x.draw) (hn:n≤50000) (hc:x.kind=1→bG F { doS M x with w:=0}=true):
  Calls Tp 25 #[Y (V ⟨G.K,0,O⟩), .agg (Ke x)] w (zvg F w own G M n x):=by
 refine zsr h hM x hx hn (fun hk W own' hW=>?_) (fun k hk hw hkF W own' hW=>?_)
 ·exact (zkI hW hd Y1 (by show M.out.length<_;rw[hM];decide)).mono fun e w' q=>⟨q.1,KO.more q.2 Y1⟩
 ·obtain rfl:k=0:=Y1;exact (zur hW Y1 (hc hk) rfl Y1 (by show M.out.length<_;rw[hM];decide)).mono fun e w' q=>⟨q.1,Gp.more q.2 Y1⟩
end
open Go.RowKit Go.Maps Asm
theorem znW (l:List Ev): ∀u∈evC l,u.oneCell'=true:=fun u hu=>by
 obtain ⟨e,-,h⟩:=List.mem_flatMap.1 hu
 simp[zh6] at h
 rcases h with rfl|rfl|rfl|rfl|rfl|rfl|rfl|rfl|rfl|rfl|rfl<;>rfl
def tailD:Nat→Code→Code
 |0,c=>c
 |n+1, .seq _ b=>tailD n b
 |_+1,c=>c
noncomputable def jq:Code:=(Tryz.f7.body).getD .skip
def Kq (K M:Nat) (tv:Value) (rb:Nat) (lg:Int) (dv:Value):Obj:= .cells #[Y (V ⟨K,0,O⟩),Y (V ⟨M,0,O⟩),tv, .map (some rb),E Z lg,dv] 67 (0,0)
theorem Kq.at_ {w:World} {Wb K M rb:Nat} {tv dv:Value} {lg:Int} (h:w.heap[Wb]?=V (Kq K M tv rb lg dv)):w.cell? ⟨Wb,0,O⟩=V (Y (V ⟨K,0,O⟩))∧w.cell? ⟨Wb,1,O⟩=V (Y (V ⟨M,0,O⟩))∧w.cell? ⟨Wb,2,O⟩=some tv∧w.cell? ⟨Wb,3,O⟩=V (.map (some rb))∧w.cell? ⟨Wb,4,O⟩=V (E Z lg)∧w.cell? ⟨Wb,5,O⟩=some dv∧ ∀o,w.frozen? ⟨Wb,o,O⟩=false:=
 ⟨ze h 0,ze h 1,ze h 2,ze h 3,ze h 4,ze h 5,fun o=>zF h o⟩
def zkd (w:World) (K M:Nat) (tv:Value) (Wb:Nat) (w':World):Prop:= ∃iL lU f',w'.heap[Wb]?=V (Kq K M tv iL lU .nilIface)∧Zl ints w' iL f' 1∧w.heap.size≤iL∧Keeps (fun b=>b=Wb) w w'
section
variable {w:World} {K Wb cb wb rb:Nat} {B:MB} {s:Nat} {t lg:Int} {tv:Value}
theorem zqj {w:World} {mb:Nat} {f:Int→Option Int} {N:Nat} (h:Zl ints w mb f N) {k:Int} (hk:VU k):(Instr.lookup 65 (.map (some mb)) (E J k) false).run Tp w= .ok (E Z ((f k).getD 0)) w:=by
 rw[h.look Tryz.underlying65 (zty w) hk];cases f k<;>rfl
theorem znU {Post:Ending→World→Prop} {fw fr:Int→Option Int} {Nc Nw Nr:Nat} (hs:s≤3) (hM:ZG w B s t) (hW:w.heap[Wb]?=V (Kq K B.M tv rb lg .nilIface)) (hc:Zl ints w cb (oneG 64 1) Nc) (hw:Zl ints w wb fw Nw) (hr:Zl ints w rb fr Nr)
  (fB:Wb∉B.l) (hP: ∀w',zkd w K B.M tv Wb w'→Post (.returned .nilIface) w') (u1 u2 u3 u4 u6 u7 u9 u10 u11 u12 u13 u14 u15 u16 u17 u18 u19 u20 u21 u22 u23 u24 u25 u26 u27 u28 u29 u30 u31 u32 u33 u34 u35 u36 u37 u38 u39 u40 u41 u42 u43 u44 u45 u46 u47 u48 u49 u50 u51 u52 u53 u54 u55 u56 u57 u58 u59 u60 u61 u62 u63 u64 u65 u66 u67 u68 u69 u70 u71 u72 u73 u74 u75 u76 u77 u78 u79 u80 u81 u82 u83 u84 u85 u86 u87 u88 u89 u90 u91 u92 u93 u94 u95 u96 u97 u98 u99 u100 u101 u102 u103 u104 u105 u106 u107 u108 u109 u110 u111 u112 u113 u114 u115 u116 u117 u118 u119 u120 u121 u122 u123 u124 u125 u126 u127 u128 u129 u130 u131 u132 u133 u134 u135 u136 u137 u138 u139 u140 u141 u142 u143 u144 u145 u146 u147 u148 u149 u150 u151 u152 u153 u154 u155 u156 u157 u158 u159 u160 u161 u162 u163 u164 u165 u166 u167 u168 u169 u170 u171 u172 u173 u174:Value):
  (tailD 9 jq).wp Tp (bodyPost Tp Tryz.f7 Post) ⟨#[Y (V ⟨Wb,0,O⟩),u1,u2,u3,u4, .map (some cb),u6,u7, .map (some wb),u9,u10,u11,u12,u13,u14,u15,u16,u17,u18,u19,u20,u21,u22,u23,u24,u25,u26,u27,u28,u29,u30,u31,u32,u33,u34,u35,u36,u37,u38,u39,u40,u41,u42,u43,u44,u45,u46,u47,u48,u49,u50,u51,u52,u53,u54,u55,u56,u57,u58,u59,u60,u61,u62,u63,u64,u65,u66,u67,u68,u69,u70,u71,u72,u73,u74,u75,u76,u77,u78,u79,u80,u81,u82,u83,u84,u85,u86,u87,u88,u89,u90,u91,u92,u93,u94,u95,u96,u97,u98,u99,u100,u101,u102,u103,u104,u105,u106,u107,u108,u109,u110,u111,u112,u113,u114,u115,u116,u117,u118,u119,u120,u121,u122,u123,u124,u125,u126,u127,u128,u129,u130,u131,u132,u133,u134,u135,u136,u137,u138,u139,u140,u141,u142,u143,u144,u145,u146,u147,u148,u149,u150,u151,u152,u153,u154,u155,u156,u157,u158,u159,u160,u161,u162,u163,u164,u165,u166,u167,u168,u169,u170,u171,u172,u173,u174],[]⟩ w:=by
 have hk:VU (64:Int):=Y14;have z1:(w.alloc (.map #[] 0)).heap.size=w.heap.size+1:=Y7;have q1: ∀b,b<w.heap.size→(w.alloc (.map #[] 0)).heap[b]?=w.heap[b]?:=fun b hb=>heap_alloc_old _ _ hb;have hmm:=@run_makeMap Tp;have hcl:=hc.lt;have hwl:=hw.lt;have hrl:=hr.lt;have cZ:=zo hW;obtain ⟨w2,r2,R2,g2,s2⟩:=(hc.of_block (q1 _ hcl)).range hk Tryz.underlying65;rw[z1] at r2 R2 s2;obtain ⟨w3,r3,R3,g3,s3,e3⟩:=R2.next hk 0;have q3: ∀b,b<w.heap.size+1→w3.heap[b]?=(w.alloc (.map #[] 0)).heap[b]?:=fun b hb=>(g3.block b Y1 fun e=>by injection e with e;omega).trans (g2.block b (by rw[z1];exact hb) Y7);have p3: ∀b,b<w.heap.size→w3.heap[b]?=w.heap[b]?:=fun b hb=>(q3 b Y1).trans (q1 b hb);have hq3:w3.heap[w.heap.size]?=V (.map #[] 0):=(q3 _ (Nat.lt_succ_self _)).trans (heap_alloc_new w _);have hz3:w3.heap.size=w.heap.size+1+1:=Y1;have hW3:=(p3 _ cZ).trans hW
 have rO:ZG w3 B s t:=hM.zk Y1 fun b hb=>p3 b (hM.lt b hb);have lw:=zqj (hw.of_block (p3 _ hwl)) hk;have hB3:Below w.heap.size w w3:=⟨g3.os.trans g2.os,g3.tape.trans g2.tape,g3.output.trans g2.output,by omega,p3⟩;obtain ⟨x0,x1,x2,x3,x4,x5,xf⟩:=Kq.at_ hW3;have f3:=xf 3;have f4:=xf 4;generalize (fw 64).getD 0=vw at lw;replace r3:(Instr.next (Y (V ⟨w.heap.size+1,0,O⟩)) false 0).run Tp w2= .ok (.tuple #[.bool true,E J 64,E Z 1]) w3:=r3;replace e3:(Instr.entry (Y (V ⟨w.heap.size+1,0,O⟩))).run Tp w3= .ok (.tuple #[E J 64,E Z 1]) w3:=e3;by_cases hv:vw=0
 ·subst hv;have HC:=Y0 (zj9 rO hs);have rz:=Y0 R3;have HP:=Y0 hP;have H3:=Y0 (And.intro hW3 (And.intro hB3 (And.intro hz3 (And.intro hq3 (And.intro (hr.of_block (p3 _ hrl)) (And.intro cZ (And.intro hrl hcl)))))));clear hM hW hc hw hr hP rO hW3 R2 R3 g2 g3 q1 q3 p3 hq3 hz3 hB3 s2 s3 hcl hwl hrl cZ xf;conv=>arg 2;whnf
  go_wp2_with fail;refine wp_loop_rounds 2 ?_;rw[rounds_succ];go_wp2_with fail;refine HC.out.mono ?_;rintro e w4 ⟨rfl,m,rfl⟩;obtain ⟨hW3,hB3,hz3,hq3,hr3,cZ,hrl,hcl⟩:=H3.out;have lr:=zqj (w:=w3.drewN m) (hr3.of_block rfl) hk;generalize (fr 64).getD 0=rv at lr;have gq:Zl ints (w3.drewN m) w.heap.size (fun _=>none) 0:=(Zl.fresh hq3).of_block rfl;obtain ⟨w5,u5,g5,t5⟩:=gq.store Y2 Tryz.underlying65 hk (wrap64 (rv+1));replace u5:(Instr.mapUpdate 65 (.map (some w.heap.size)) (E J 64) (E Z (wrap64 (rv+1)))).run Tp (w3.drewN m)= .ok () w5:=u5;have e5: ∀b,b<w3.heap.size→b≠w.heap.size→w5.heap[b]?=w3.heap[b]?:=fun b hb hn=>t5.grown.block b hb fun e=>hn Y18;have s5:w3.heap.size≤w5.heap.size:=t5.grown.size;have lq:=zqj (w:=w5.drew) (g5.of_block rfl) hk;have hu:(zd0 (fun _=>none) 64 (wrap64 (rv+1)) 64).getD 0=wrap64 (rv+1):=by simp[zd0]
  rw[hu] at lq;have nk:=(e5 _ Y1 Y1).trans hW3;obtain ⟨y0,y1,y2,y3,y4,y5,yf⟩:=Kq.at_ nk;have k3:=yf 3;have k4:=yf 4;have R5:Rng ints w5 cb (w.heap.size+1) 64 1 false:=rz.out.zk (e5 _ Y1 Y1) (e5 _ rz.out.lt Y1);have hcW:cb≠Wb:=fun e=>by
   obtain ⟨es,cc,q⟩:=g5.isMap;obtain ⟨D,n,left,cnt,h1,-⟩:=R5;obtain ⟨es,clock,hb,-⟩:=h1.owns;rw[e,nk] at hb;cases hb
  have R6:Rng ints (w5.setCell ⟨Wb,4,O⟩ (E Z (max lg (wrap64 (rv+1))))) cb (w.heap.size+1) 64 1 false:=R5.zk (zm hcW) (zm (by show w.heap.size+1≠Wb;omega));have r6:=R6.done 0;have r6':(Instr.next (Y (V ⟨w.heap.size+1,0,O⟩)) false 0).run Tp (w5.setCell ⟨Wb,4,O⟩ (E Z (max lg (wrap64 (rv+1))))).drew= .ok (.tuple #[.bool false]) (w5.setCell ⟨Wb,4,O⟩ (E Z (max lg (wrap64 (rv+1))))).drew:=(R6.zk (w':=(w5.setCell ⟨Wb,4,O⟩ (E Z (max lg (wrap64 (rv+1))))).drew) rfl rfl).done 0;have HZ:Hid (∀aB:World,aB.heap=((w5.setCell ⟨Wb,4,O⟩ (E Z (max lg (wrap64 (rv+1))))).setCell ⟨Wb,3,O⟩ (.map (some w.heap.size))).heap→aB.os=w5.os→aB.tape=w5.tape→aB.output=w5.output→Post (.returned .nilIface) aB):=Y0 fun aB e0 e1 e2 e3=>by
   refine HP.out aB ⟨w.heap.size,max lg (wrap64 (rv+1)),zd0 (fun _=>none) 64 (wrap64 (rv+1)),?_,?_,Nat.le_refl _,?_⟩
   ·rw[e0];exact (zy (zy nk _) _).trans rfl
   ·refine g5.of_block ?_;rw[e0];exact (zm (show w.heap.size≠Wb by omega)).trans (zm (show w.heap.size≠Wb by omega))
   ·refine ⟨e1.trans (t5.grown.os.trans hB3.os),e2.trans (t5.grown.tape.trans hB3.tape),e3.trans (t5.grown.output.trans hB3.output),by rw[e0];simp;omega,fun b hb hn=>?_⟩;rw[e0];exact (zm hn).trans ((zm hn).trans ((e5 b Y1 Y1).trans (hB3.block b hb)))
  clear hW3 hB3 hz3 hq3 hr3 cZ hrl hcl gq g5 t5 e5 s5 nk R5 hcW R6 rz H3 HP HC yf hu;go_wp2_with fail;go_region;go_wp2_with fail;rw[rounds_succ];go_wp2_with fail;exact HZ.out _ rfl rfl rfl rfl
 ·have hvb:(vw==0)=false:=beq_eq_false_iff_ne.2 hv;have r4:=R3.done 0;have HZ:Hid (Post (.returned .nilIface) (w3.setCell ⟨Wb,3,O⟩ (.map (some w.heap.size)))):=Y0 (by
   refine hP _ ⟨w.heap.size,lg,fun _=>none,?_,((Zl.fresh hq3).of_block (zm (show w.heap.size≠Wb by omega))).mono Y2,Nat.le_refl _,?_⟩
   ·exact (zy hW3 _).trans rfl
   ·exact (Keeps.zO (X:=fun b=>b=Wb) hB3).setCell (p:=⟨Wb,3,O⟩) rfl _)
  clear hM hW hc hw hr hP rO hW3 R2 R3 g2 g3 q1 q3 p3 hq3 hz3 hB3 s2 s3 hcl hwl hrl cZ xf hv;conv=>arg 2;whnf
  go_wp2_with fail;refine wp_loop_rounds 2 ?_;rw[rounds_succ];go_wp2_with fail;rw[rounds_succ];go_wp2_with fail;exact HZ.out
end
open Go.RowKit Go.Maps Asm Errs
theorem vN.kept {w W:World} {Wb:Nat} {pv:Option Addr} (h0:w.cell? ⟨Wb,0,O⟩=V (.pointer pv)) (hk: ∀b,b≠Wb→b<w.heap.size→W.heap[b]?=w.heap[b]?) (hs:w.heap.size≤W.heap.size): ∀{r:List (ByteArray×Int)} {k:Int} {v:Value},vN w r k v→vN W r k v
 |[],_,_,h=>h
 |(s,n)::r,k,v,h=>by
  obtain ⟨b,v',h1,h2,h3,h4,h5,h6⟩:=h
  have hn:b≠Wb:=fun e=>by subst e;rw[h0] at h3;cases h3
  have e:=hk b hn h2
  exact ⟨b,v',h1,Nat.lt_of_lt_of_le h2 hs,(World.cell?_of_block (a:=⟨b,0,O⟩) e).trans h3,(World.cell?_of_block (a:=⟨b,1,O⟩) e).trans h4,(World.cell?_of_block (a:=⟨b,2,O⟩) e).trans h5,vN.kept h0 hk hs h6⟩
def jY:ByteArray:=⟨#[102,97,105,114]⟩
theorem zdY (w:World) (n k:Int) (r:List (ByteArray×Int)) (x:Value) (hx:vN w r k x):Calls Tp 27 #[E Z n,x] w fun e w'=> ∃b,e=Rt (.iface 94 (Y (V ⟨b,0,O⟩)))∧vN w' ((jY,n)::r) k (.iface 94 (Y (V ⟨b,0,O⟩)))∧Below w.heap.size w w':=by
 obtain ⟨ty,v,rfl⟩:=hx.form;have hb:Below w.heap.size w (w.alloc (Ce #[.string jY,E Z n, .iface ty v] 98)):=(Below.refl _ _).alloc (Nat.le_refl _) _;have hx1:=hx.below hb;have hz:=heap_alloc_new w (.cells #[.string jY,E Z n, .iface ty v] 98);have HZ:=Y0 (And.intro hb (And.intro hx1 hz));clear hb hx1 hz hx;go_enter Tryz.func27,Tryz.ntmps27;go_wp2;go_ret;obtain ⟨hb,hx1,hz⟩:=HZ.out;exact ⟨w.heap.size,rfl,⟨_,_,rfl,zo hz,ze hz 0,ze hz 1,ze hz 2,hx1⟩,hb⟩
section
variable {w:World} {K Wb cb wb rb:Nat} {B:MB} {s s':Nat} {t t' lg n:Int} {tv ov:Value}
theorem zt8 {Post:Ending→World→Prop} {fw fr:Int→Option Int} {Nc Nw Nr:Nat} {A:Option Addr} {c:Nat} (hs:s≤3) (hM:ZG w B s t) (hW:w.heap[Wb]?=V (Kq K B.M tv rb lg .nilIface)) (hc:Zl ints w cb (oneG 64 1) Nc) (hw:Zl ints w wb fw Nw) (hr:Zl ints w rb fr Nr)
  (fB:Wb∉B.l) (ho:ov= .slice A 0 c) (hP: ∀w',zkd w K B.M tv Wb w'→Post (.returned .nilIface) w') (u1 u2 u3 u4 u6 u7 u11 u12 u13 u14 u15 u16 u17 u18 u19 u20 u21 u22 u23 u24 u25 u26 u27 u28 u29 u30 u31 u32 u33 u34 u35 u36 u37 u38 u39 u40 u41 u42 u43 u44 u45 u46 u47 u48 u49 u50 u51 u52 u53 u54 u55 u56 u57 u58 u59 u60 u61 u62 u63 u64 u65 u66 u67 u68 u69 u70 u71 u72 u73 u74 u75 u76 u77 u78 u79 u80 u81 u82 u83 u84 u85 u86 u87 u88 u89 u90 u91 u92 u93 u94 u95 u96 u97 u98 u99 u100 u101 u102 u103 u104 u105 u106 u107 u108 u109 u110 u111 u112 u113 u114 u115 u116 u117 u118 u119 u120 u121 u122 u123 u124 u125 u126 u127 u128 u129 u130 u131 u132 u133 u134 u135 u136 u137 u138 u139 u140 u141 u142 u143 u144 u145 u146 u147 u148 u149 u150 u151 u152 u153 u154 u155 u156 u157 u158 u159 u160 u161 u162 u163 u164 u165 u166 u167 u168 u169 u170 u171 u172 u173 u174:Value):
  (tailD 8 jq).wp Tp (bodyPost Tp Tryz.f7 Post) ⟨#[Y (V ⟨Wb,0,O⟩),u1,u2,u3,u4, .map (some cb),u6,u7, .map (some wb),E Z n,ov,u11,u12,u13,u14,u15,u16,u17,u18,u19,u20,u21,u22,u23,u24,u25,u26,u27,u28,u29,u30,u31,u32,u33,u34,u35,u36,u37,u38,u39,u40,u41,u42,u43,u44,u45,u46,u47,u48,u49,u50,u51,u52,u53,u54,u55,u56,u57,u58,u59,u60,u61,u62,u63,u64,u65,u66,u67,u68,u69,u70,u71,u72,u73,u74,u75,u76,u77,u78,u79,u80,u81,u82,u83,u84,u85,u86,u87,u88,u89,u90,u91,u92,u93,u94,u95,u96,u97,u98,u99,u100,u101,u102,u103,u104,u105,u106,u107,u108,u109,u110,u111,u112,u113,u114,u115,u116,u117,u118,u119,u120,u121,u122,u123,u124,u125,u126,u127,u128,u129,u130,u131,u132,u133,u134,u135,u136,u137,u138,u139,u140,u141,u142,u143,u144,u145,u146,u147,u148,u149,u150,u151,u152,u153,u154,u155,u156,u157,u158,u159,u160,u161,u162,u163,u164,u165,u166,u167,u168,u169,u170,u171,u172,u173,u174],[]⟩ w:=by
 subst ho;have HP:=Y0 (And.intro hM (And.intro hW (And.intro hc (And.intro hw (And.intro hr (And.intro fB hP))))));clear hM hW hc hw hr fB hP;conv=>arg 2;whnf
 refine wp_seq_k (fun ak hJ=>?_);have HJ:=Y0 hJ;clear hJ;go_wp2_with fail;refine wp_loop_rounds 1 ?_;rw[rounds_succ];go_wp2_with fail;obtain ⟨hM,hW,hc,hw,hr,fB,hP⟩:=HP.out;exact HJ.out _ _ (znU hs hM hW hc hw hr fB hP _ _ _ _ _ _ _ _ _ _ _ _ _ _ _ _ _ _ _ _ _ _ _ _ _ _ _ _ _ _ _ _ _ _ _ _ _ _ _ _ _ _ _ _ _ _ _ _ _ _ _ _ _ _ _ _ _ _ _ _ _ _ _ _ _ _ _ _ _ _ _ _ _ _ _ _ _ _ _ _ _ _ _ _ _ _ _ _ _ _ _ _ _ _ _ _ _ _ _ _ _ _ _ _ _ _ _ _ _ _ _ _ _ _ _ _ _ _ _ _ _ _ _ _ _ _ _ _ _ _ _ _ _ _ _ _ _ _ _ _ _ _ _ _ _ _ _ _ _ _ _ _ _ _ _ _ _ _ _ _ _ _ _ _ _ _ _ _ _ _ _ _)
theorem zuu {w:World} {base:Nat} {ov:Value} {e:Ev} (h:w.ownsRow base 74 11 ov 1 (evC [e])): ∃ge c,ov=Sl (V ⟨ge,0,O⟩) 1 c∧ge<w.heap.size∧ ∀j u,(zh6 e)[j]?=some u→w.cell? ⟨ge,j,O⟩=some u:=by
 rcases Go.Proofs.YtdlpmnmenhojfaaGreatDoor.gG h with ⟨-,q,-⟩ |⟨ge,c,rfl,hq⟩
 ·cases q
 ·refine ⟨ge,c,rfl,(h.lt ge rfl).2,fun j u hu=>?_⟩;have:=hq j u (by simpa[evC] using hu);rwa[Addr.add_lit,Nat.zero_add] at this
theorem a97.Q49 (h:zP:=by
 have hz1:=heap_alloc_new w (.cells (KW ⟨kd,p,kw,et,num,a0,a1,a2,a3,v,cd⟩) 74);have HT:=Y0 (HT0 _ (hM.below hb1));obtain ⟨x0,x1,x2,x3,x4,x5,xf⟩:=Kq.at_ hW;have cZ:=zo hW;have HH:=Y0 (And.intro hb1 (And.intro hz1 (And.intro hM (And.intro hW (And.intro hc (And.intro hw (And.intro hr (And.intro fB (And.intro hcB (And.intro AA qb))))))))));have HP:=Y0 hP;unfold KW at HT;dsimp only at HT;clear hM hW hc hw hr fB hcB AA qb hP HT0 hb1 hz1 ho hcell xf;conv=>arg 2;whnf
 refine wp_seq_k (fun ak hJ=>?_);have HJ:=Y0 hJ;clear hJ;go_wp2_with fail;refine wp_loop_rounds 2 ?_;rw[rounds_succ];go_wp2_with fail;go_region_with (go_at_call 26;refine HT.out.mono ?_;rintro e w2 ⟨rfl,h2⟩);all_goals
  obtain ⟨hb1,hz1,hM,hW,hc,hw,hr,fB,hcB,AA,qb⟩:=HH.out
  obtain ⟨B',hM2,xB,hK2,hB2⟩:=h2.below hb1
  have Fz:=hw.lt
  have e2: ∀b,b<w.heap.size→b∉B.l→w2.heap[b]?=w.heap[b]?:=fun b h1 h3=>hK2.block b h1 h3
  have hz2:w2.heap[w.heap.size]?=V (Ce (KW ⟨kd,p,kw,et,num,a0,a1,a2,a3,v,cd⟩) 74 (0,0)):=by
   obtain ⟨B3,-,-,hK3,-⟩:=h2
   exact (hK3.block w.heap.size (by show w.heap.size<(w.alloc _).heap.size;simp) fun q=>by have:=hM.lt _ q;omega).trans hz1
  obtain ⟨z0,z1,z2,z3,z4,z5,z6,z7,z8,z9,z10⟩:=kM (e:=⟨kd,p,kw,et,num,a0,a1,a2,a3,v,cd⟩) hz2
  have hw2:=hw.of_block (e2 _ hw.lt AA)
  have lw:=zqj hw2 het
  obtain ⟨w3,u3,g3,t3⟩:=hw2.store Y24 Tryz.underlying65 het (wrap64 ((fw et).getD 0+1))
  replace u3:(Instr.mapUpdate 65 (.map (some wb)) (E J et) (E Z (wrap64 ((fw et).getD 0+1)))).run Tp w2= .ok () w3:=u3
  have e3: ∀b,b<w2.heap.size→b≠wb→w3.heap[b]?=w2.heap[b]?:=fun b hb hn=>t3.grown.block b hb fun e=>hn Y18
  have s2:w.heap.size≤w2.heap.size:=hK2.size
  have s3:w2.heap.size≤w3.heap.size:=t3.grown.size
  have hz3:=(e3 _ (zo hz2) Y1).trans hz2
  obtain ⟨y0,-,-,-,y4,-⟩:=kM (e:=⟨kd,p,kw,et,num,a0,a1,a2,a3,v,cd⟩) hz3
  have Et:wb∉B'.l:=fun q=>(hB2 _ q).elim AA fun q=>by omega
  have HA:Hid (ZG w3 B' s' t'∧w3.heap[Wb]?=V (Kq K B'.M tv rb lg .nilIface)∧Zl ints w3 cb (oneG 64 1) Nc∧Zl ints w3 rb fr Nr∧Wb∉B'.l∧Keeps (fun b=>b∈B.l∨b=wb) w w3):=Y0 (by
   refine ⟨hM2.zk s3 fun b hb=>e3 b (hM2.lt b hb) fun q=>Et (q▸hb),?_,hc.of_block ((e3 _ (Nat.lt_of_lt_of_le hc.lt s2) (Ne.symm hwc)).trans (e2 _ hc.lt hcB)),hr.of_block ((e3 _ (Nat.lt_of_lt_of_le hr.lt s2) (Ne.symm hwr)).trans (e2 _ hr.lt qb)),fun q=>(hB2 _ q).elim fB fun q=>by omega,?_⟩
   ·rw[xB]
    refine (e3 _ Y1 fun q=>?_).trans ((e2 _ cZ fB).trans hW)
    obtain ⟨es,cc,hm⟩:=hw.isMap
    rw[←q,hW] at hm
    cases hm
   ·exact ⟨t3.grown.os.trans hK2.os,t3.grown.tape.trans hK2.tape,t3.grown.output.trans hK2.output,by omega,fun b hb hn=>(e3 b Y1 fun q=>hn (Or.inr q)).trans (e2 b hb fun q=>hn (Or.inl q))⟩)
  have HG:=Y0 (And.intro g3 (And.intro xB hB2))
  clear hb1 hz1 hM hW hc hw hr fB hcB AA qb hM2 hK2 e2 hz2 hw2 g3 t3 e3 s2 s3 hz3 Et h2 HH HT xB hB2
  by_cases h5:kd=5
  ·have RH:=hk5 h5
   subst h5 RH
   go_wp2_with fail
   rw[rounds_succ]
   go_wp2_with fail
   obtain ⟨a1,a2,a3,a4,a5,a6⟩:=HA.out
   obtain ⟨b1,b2,b3⟩:=HG.out
   exact HJ.out _ _ (znU hs' a1 a2 a3 b1 a4 a5 (fun w' hd=>HP.out B' w3 w' a1 b2 a6 b3 (by rw[←b2];exact hd)) _ _ _ _ _ _ _ _ _ _ _ _ _ _ _ _ _ _ _ _ _ _ _ _ _ _ _ _ _ _ _ _ _ _ _ _ _ _ _ _ _ _ _ _ _ _ _ _ _ _ _ _ _ _ _ _ _ _ _ _ _ _ _ _ _ _ _ _ _ _ _ _ _ _ _ _ _ _ _ _ _ _ _ _ _ _ _ _ _ _ _ _ _ _ _ _ _ _ _ _ _ _ _ _ _ _ _ _ _ _ _ _ _ _ _ _ _ _ _ _ _ _ _ _ _ _ _ _ _ _ _ _ _ _ _ _ _ _ _ _ _ _ _ _ _ _ _ _ _ _ _ _ _ _ _ _ _ _ _ _ _ _ _ _ _ _ _ _ _ _ _ _)
  ·have h5b:(kd==5)=false:=beq_eq_false_iff_ne.2 h5
   go_wp2_with fail
   rw[rounds_succ]
   go_wp2_with fail
   obtain ⟨a1,a2,a3,a4,a5,a6⟩:=HA.out
   obtain ⟨b1,b2,b3⟩:=HG.out
   exact HJ.out _ _ (znU hs' a1 a2 a3 b1 a4 a5 (fun w' hd=>HP.out B' w3 w' a1 b2 a6 b3 (by rw[←b2];exact hd)) _ _ _ _ _ _ _ _ _ _ _ _ _ _ _ _ _ _ _ _ _ _ _ _ _ _ _ _ _ _ _ _ _ _ _ _ _ _ _ _ _ _ _ _ _ _ _ _ _ _ _ _ _ _ _ _ _ _ _ _ _ _ _ _ _ _ _ _ _ _ _ _ _ _ _ _ _ _ _ _ _ _ _ _ _ _ _ _ _ _ _ _ _ _ _ _ _ _ _ _ _ _ _ _ _ _ _ _ _ _ _ _ _ _ _ _ _ _ _ _ _ _ _ _ _ _ _ _ _ _ _ _ _ _ _ _ _ _ _ _ _ _ _ _ _ _ _ _ _ _ _ _ _ _ _ _ _ _ _ _ _ _ _ _ _ _ _ _ _ _ _ _)):zP:=h
open a97 in
theorem zu1 {Post:Ending→World→Prop} {fw fr:Int→Option Int} {Nc Nw Nr:Nat} {e:Ev} (hs':s'≤3) (hM:ZG w B s t) (hW:w.heap[Wb]?=V (Kq K B.M tv rb lg .nilIface)) (hc:Zl ints w cb (oneG 64 1) Nc) (hw:Zl ints w wb fw Nw) (hNw:Nw≤100) (hr:Zl ints w rb fr Nr)
  (fB:Wb∉B.l) (hcB:cb∉B.l) (AA:wb∉B.l) (qb:rb∉B.l) (hwc:wb≠cb) (hwr:wb≠rb) (ho:w.ownsRow 0 74 11 ov 1 (evC [e])) (het:VU e.t) (hk5:e.kind=5→e.num=5)
  (HT0: ∀W,ZG W B s t→Calls Tp 26 #[Y (V ⟨B.M,0,O⟩), .agg (KW e)] W fun r w'=>r= .returned .nilIface∧vg W B s' t' w')
  (hP: ∀B' w1 w',ZG w1 B' s' t'→B'.M=B.M→Keeps (fun b=>b∈B.l∨b=wb) w w1→(∀b∈B'.l,b∈B.l∨w.heap.size≤b)→zkd w1 K B.M tv Wb w'→Post (.returned .nilIface) w') (u1 u2 u3 u4 u6 u7 u11 u12 u13 u14 u15 u16 u17 u18 u19 u20 u21 u22 u23 u24 u25 u26 u27 u28 u29 u30 u31 u32 u33 u34 u35 u36 u37 u38 u39 u40 u41 u42 u43 u44 u45 u46 u47 u48 u49 u50 u51 u52 u53 u54 u55 u56 u57 u58 u59 u60 u61 u62 u63 u64 u65 u66 u67 u68 u69 u70 u71 u72 u73 u74 u75 u76 u77 u78 u79 u80 u81 u82 u83 u84 u85 u86 u87 u88 u89 u90 u91 u92 u93 u94 u95 u96 u97 u98 u99 u100 u101 u102 u103 u104 u105 u106 u107 u108 u109 u110 u111 u112 u113 u114 u115 u116 u117 u118 u119 u120 u121 u122 u123 u124 u125 u126 u127 u128 u129 u130 u131 u132 u133 u134 u135 u136 u137 u138 u139 u140 u141 u142 u143 u144 u145 u146 u147 u148 u149 u150 u151 u152 u153 u154 u155 u156 u157 u158 u159 u160 u161 u162 u163 u164 u165 u166 u167 u168 u169 u170 u171 u172 u173 u174:Value):
  (tailD 8 jq).wp Tp (bodyPost Tp Tryz.f7 Post) ⟨#[Y (V ⟨Wb,0,O⟩),u1,u2,u3,u4, .map (some cb),u6,u7, .map (some wb),E Z n,ov,u11,u12,u13,u14,u15,u16,u17,u18,u19,u20,u21,u22,u23,u24,u25,u26,u27,u28,u29,u30,u31,u32,u33,u34,u35,u36,u37,u38,u39,u40,u41,u42,u43,u44,u45,u46,u47,u48,u49,u50,u51,u52,u53,u54,u55,u56,u57,u58,u59,u60,u61,u62,u63,u64,u65,u66,u67,u68,u69,u70,u71,u72,u73,u74,u75,u76,u77,u78,u79,u80,u81,u82,u83,u84,u85,u86,u87,u88,u89,u90,u91,u92,u93,u94,u95,u96,u97,u98,u99,u100,u101,u102,u103,u104,u105,u106,u107,u108,u109,u110,u111,u112,u113,u114,u115,u116,u117,u118,u119,u120,u121,u122,u123,u124,u125,u126,u127,u128,u129,u130,u131,u132,u133,u134,u135,u136,u137,u138,u139,u140,u141,u142,u143,u144,u145,u146,u147,u148,u149,u150,u151,u152,u153,u154,u155,u156,u157,u158,u159,u160,u161,u162,u163,u164,u165,u166,u167,u168,u169,u170,u171,u172,u173,u174],[]⟩ w:=by
 exact J49
end
section
variable {w:World} {K Wb cb wb rb:Nat} {B:MB} {s s':Nat} {t t' lg n:Int} {tv ov:Value}
theorem a98.Q49 (h:zP:=by
 have HT:=Y0 (HT0 _ (hM.below hb1));obtain ⟨x0,x1,x2,x3,x4,x5,xf⟩:=Kq.at_ hW;have cZ:=zo hW;have HH:=Y0 (And.intro hb1 (And.intro hM (And.intro hW fB)));have HP:=Y0 hP;unfold KW at HT;dsimp only at HT;clear hM hW fB hP HT0 hb1 ho hcell xf;conv=>arg 2;whnf
 refine wp_seq_k (fun ak hJ=>?_);clear hJ;go_wp2_with fail;refine wp_loop_rounds 2 ?_;rw[rounds_succ];go_wp2_with fail;go_region_with (go_at_call 26;refine HT.out.mono ?_;rintro e w2 ⟨x,rfl,h2⟩;obtain ⟨ty,xv,rfl⟩:=h2.1.form);all_goals
  obtain ⟨hb1,hM,hW,fB⟩:=HH.out
  obtain ⟨hx,hk2⟩:=h2
  have s2:w.heap.size≤w2.heap.size:=Nat.le_trans hb1.size hk2.size
  have hW2:w2.heap[Wb]?=V (Kq K B.M tv rb lg .nilIface):=(hk2.block _ (Nat.lt_of_lt_of_le cZ hb1.size) fB).trans ((hb1.block _ cZ).trans hW)
  have fD:Keeps (fun b=>b∈B.l) w w2:=(Keeps.zO (X:=fun b=>b∈B.l) hb1).trans hk2 fun _ e=>Or.inl e
  have HF:=Y0 (zdY w2 n k r _ hx)
  have HX:=Y0 (And.intro hW2 fD)
  clear hb1 hM hW fB hx hk2 hW2 fD HH HT
  go_wp2_with fail
  refine HF.out.mono ?_
  rintro e w3 ⟨b,rfl,hx3,hb3⟩
  obtain ⟨hW2,fD⟩:=HX.out
  have hW3:=(hb3.block _ (zo hW2)).trans hW2
  obtain ⟨y0,y1,y2,y3,y4,y5,yf⟩:=Kq.at_ hW3
  have f5:=yf 5
  have pG:(w3.setCell ⟨Wb,5,O⟩ (.iface 94 (Y (V ⟨b,0,O⟩)))).heap[Wb]?=V (Kq K B.M tv rb lg (.iface 94 (Y (V ⟨b,0,O⟩)))):=(zy hW3 _).trans rfl
  have hk4:Keeps (fun b=>b∈B.l∨b=Wb) w (w3.setCell ⟨Wb,5,O⟩ (.iface 94 (Y (V ⟨b,0,O⟩)))):=((fD.mono fun _ e=>Or.inl e).trans (Keeps.zO (X:=fun b=>b∈B.l∨b=Wb) hb3) fun _ e=>Or.inl e).setCell (p:=⟨Wb,5,O⟩) (Or.inr rfl) _
  have HE:Hid (vN (w3.setCell ⟨Wb,5,O⟩ (.iface 94 (Y (V ⟨b,0,O⟩)))) ((jY,n)::r) k (.iface 94 (Y (V ⟨b,0,O⟩)))):=Y0 (vN.kept (Wb:=Wb) y0 (fun b hb _=>zm hb) Y7 hx3)
  have HR:=Y0 (And.intro pG hk4)
  clear hW2 fD hW3 yf pG hk4 hx3 hb3 HX HF
  go_wp2_with fail
  exact HP.out b _ HE.out HR.out.1 HR.out.2):zP:=h
open a98 in
theorem zuU {Post:Ending→World→Prop} {e:Ev} {r:List (ByteArray×Int)} {k:Int} (hM:ZG w B s t) (hW:w.heap[Wb]?=V (Kq K B.M tv rb lg .nilIface))
  (fB:Wb∉B.l) (ho:w.ownsRow 0 74 11 ov 1 (evC [e]))
  (HT0: ∀W,ZG W B s t→Calls Tp 26 #[Y (V ⟨B.M,0,O⟩), .agg (KW e)] W fun q w'=> ∃x,q= .returned x∧vN w' r k x∧Keeps (fun b=>b∈B.l) W w')
  (hP: ∀b w',vN w' ((jY,n)::r) k (.iface 94 (Y (V ⟨b,0,O⟩)))→w'.heap[Wb]?=V (Kq K B.M tv rb lg (.iface 94 (Y (V ⟨b,0,O⟩))))→Keeps (fun b=>b∈B.l∨b=Wb) w w'→Post (.returned (.iface 94 (Y (V ⟨b,0,O⟩)))) w') (u1 u2 u3 u4 u6 u7 u11 u12 u13 u14 u15 u16 u17 u18 u19 u20 u21 u22 u23 u24 u25 u26 u27 u28 u29 u30 u31 u32 u33 u34 u35 u36 u37 u38 u39 u40 u41 u42 u43 u44 u45 u46 u47 u48 u49 u50 u51 u52 u53 u54 u55 u56 u57 u58 u59 u60 u61 u62 u63 u64 u65 u66 u67 u68 u69 u70 u71 u72 u73 u74 u75 u76 u77 u78 u79 u80 u81 u82 u83 u84 u85 u86 u87 u88 u89 u90 u91 u92 u93 u94 u95 u96 u97 u98 u99 u100 u101 u102 u103 u104 u105 u106 u107 u108 u109 u110 u111 u112 u113 u114 u115 u116 u117 u118 u119 u120 u121 u122 u123 u124 u125 u126 u127 u128 u129 u130 u131 u132 u133 u134 u135 u136 u137 u138 u139 u140 u141 u142 u143 u144 u145 u146 u147 u148 u149 u150 u151 u152 u153 u154 u155 u156 u157 u158 u159 u160 u161 u162 u163 u164 u165 u166 u167 u168 u169 u170 u171 u172 u173 u174:Value):
  (tailD 8 jq).wp Tp (bodyPost Tp Tryz.f7 Post) ⟨#[Y (V ⟨Wb,0,O⟩),u1,u2,u3,u4, .map (some cb),u6,u7, .map (some wb),E Z n,ov,u11,u12,u13,u14,u15,u16,u17,u18,u19,u20,u21,u22,u23,u24,u25,u26,u27,u28,u29,u30,u31,u32,u33,u34,u35,u36,u37,u38,u39,u40,u41,u42,u43,u44,u45,u46,u47,u48,u49,u50,u51,u52,u53,u54,u55,u56,u57,u58,u59,u60,u61,u62,u63,u64,u65,u66,u67,u68,u69,u70,u71,u72,u73,u74,u75,u76,u77,u78,u79,u80,u81,u82,u83,u84,u85,u86,u87,u88,u89,u90,u91,u92,u93,u94,u95,u96,u97,u98,u99,u100,u101,u102,u103,u104,u105,u106,u107,u108,u109,u110,u111,u112,u113,u114,u115,u116,u117,u118,u119,u120,u121,u122,u123,u124,u125,u126,u127,u128,u129,u130,u131,u132,u133,u134,u135,u136,u137,u138,u139,u140,u141,u142,u143,u144,u145,u146,u147,u148,u149,u150,u151,u152,u153,u154,u155,u156,u157,u158,u159,u160,u161,u162,u163,u164,u165,u166,u167,u168,u169,u170,u171,u172,u173,u174],[]⟩ w:=by
 exact J49
end
structure Wat (Q:Nat→Prop) (F:Fixed) (w:World) (own:Own) (G:KG) (M:zD) (nn:Nat) (B:MB) (s:Nat) (t:Int) (Wb:Nat) (tv:Value) (rb:Nat) (lg:Int) (ne:Nat) (cs:List Value):Prop where
 zg4:zi F w own G M nn
 mod:ZG w B s t
 obj:w.heap[Wb]?=V (Kq G.K B.M tv rb lg .nilIface)
 row:w.ownsRow 0 74 11 tv ne cs
 tvo: ∀b,tv.ownBlock=some b→own b= .other∧b∉B.l∧ ¬Q b
 runs: ∃fr Nr,Zl ints w rb fr Nr
 oW:own Wb= .other
 oB: ∀b∈B.l,own b= .other
 oR:own rb= .other
 nB:Wb∉B.l
 nR:rb∉B.l
 q: ∀b,Q b→own b= .other∧b≠Wb∧b∉B.l∧b≠rb∧b<w.heap.size
section
variable {Q:Nat→Prop} {F:Fixed} {w w':World} {own own':Own} {G:KG} {M:zD} {nn:Nat} {B:MB} {s:Nat} {t:Int} {Wb:Nat} {tv:Value} {rb:Nat} {lg:Int} {ne:Nat} {cs:List Value}
theorem Wat.lt (h:Wat Q F w own G M nn B s t Wb tv rb lg ne cs):Wb<w.heap.size:=zo h.obj
theorem Wat.tvW (h:Wat Q F w own G M nn B s t Wb tv rb lg ne cs): ∀b,tv.ownBlock=some b→b≠Wb:=fun b hb e=>by
 obtain ⟨cur,hc⟩:=Asm.Zz h.row hb
 exact Zp hc h.obj Y2 e
theorem Wat.below (h:Wat Q F w own G M nn B s t Wb tv rb lg ne cs) (hb:Below w.heap.size w w'):Wat Q F w' (ext own w.heap.size .other) G M nn B s t Wb tv rb lg ne cs:=by
 have o: ∀b,b<w.heap.size→own b= .other→ext own w.heap.size .other b= .other:=fun b h1 h2=>(Bh h1).trans h2;obtain ⟨fr,Nr,hr⟩:=h.runs;exact ⟨h.zg4.below hb,h.mod.below hb,(hb.block _ h.lt).trans h.obj,za h.row fun b e=>hb.block b (h.row.lt b e).2,fun b e=>⟨o b (h.row.lt b e).2 (h.tvo b e).1,(h.tvo b e).2⟩,⟨fr,Nr,hr.of_block (hb.block _ hr.lt)⟩,o _ h.lt h.oW,fun b hbl=>o b (h.mod.lt b hbl) (h.oB b hbl),o _ hr.lt h.oR,h.nB,h.nR,fun b q=>⟨o b (h.q b q).2.2.2.2 (h.q b q).1,(h.q b q).2.1,(h.q b q).2.2.1,(h.q b q).2.2.2.1,Nat.lt_of_lt_of_le (h.q b q).2.2.2.2 hb.size⟩⟩
def zpq (s:Nat) (t:Int) (s':Nat) (t':Int) (l:List Ev):Prop:=s'≤3∧((l= []∧s'=s∧t'=t)∨ ∃e:Ev,l= [e]∧VU e.t∧(e.kind=5→e.num=5)∧ ∀B W,ZG W B s t→Calls Tp 26 #[Y (V ⟨B.M,0,O⟩), .agg (KW e)] W fun r w'=>r= .returned .nilIface∧vg W B s' t' w')
def zpH (s:Nat) (t:Int) (r:List (ByteArray×Int)) (k:Int) (l:List Ev):Prop:= ∃e:Ev,l= [e]∧ ∀B W,ZG W B s t→Calls Tp 26 #[Y (V ⟨B.M,0,O⟩), .agg (KW e)] W fun q w'=> ∃x,q= .returned x∧vN w' r k x∧Keeps (fun b=>b∈B.l) W w'
theorem zkg {w1 w4:World} {B':MB} {s':Nat} {t':Int} {wb:Nat} {ne':Nat} {cs':List Value} (h:Wat Q F w4 own G M nn B s t Wb tv rb lg ne' cs') (hwo:own wb= .other∧wb<w4.heap.size∧wb≠Wb∧tv.ownBlock≠some wb∧ ¬Q wb)
  (hM:ZG w1 B' s' t') (xB:B'.M=B.M) (hK:Keeps (fun b=>b∈B.l∨b=wb) w4 w1) (hB: ∀b∈B'.l,b∈B.l∨w4.heap.size≤b) (hd:zkd w1 G.K B.M tv Wb w'):
  ∃own' iL lU,Wat Q F w' own' G M nn B' s' t' Wb tv iL lU ne' cs'∧Keeps (fun b=> ¬Q b) w4 w':=by
 obtain ⟨iL,lU,f',d1,d2,d3,d4⟩:=hd;have s1:=hK.size;have s4:=d4.size;have all: ∀b,b<w4.heap.size→b∉B.l→b≠wb→b≠Wb→w'.heap[b]?=w4.heap[b]?:=fun b h1 h2 h3 h5=>(d4.block b Y1 h5).trans (hK.block b h1 fun q=>q.elim h2 h3);have hk4:Keeps (fun b=>b∈B.l∨b=wb∨b=Wb) w4 w':=⟨d4.os.trans hK.os,d4.tape.trans hK.tape,d4.output.trans hK.output,by omega,fun b hb hn=>all b hb (fun q=>hn (Or.inl q)) (fun q=>hn (Or.inr (Or.inl q))) fun q=>hn (Or.inr (Or.inr q))⟩;have ht:Touch (· = .other) w4 w' own (ext own w4.heap.size .other):=touch_of hk4 fun b e=>by
  rcases e with e|e|e
  ·exact h.oB b e
  ·rw[e];exact hwo.1
  ·rw[e];exact h.oW
 have o: ∀b,(b<w4.heap.size→own b= .other)→ext own w4.heap.size .other b= .other:=fun b hb=>by
  rcases Nat.lt_or_ge b w4.heap.size with q|q
  ·exact (Bh q).trans (hb q)
  ·exact Zo (Or.inr q)
 have Pv:Wb∉B'.l:=fun q=>(hB _ q).elim h.nB fun q=>by have:=h.lt;omega
 have uP: ∀b,tv.ownBlock=some b→b<w4.heap.size:=fun b e=>(h.row.lt b e).2;refine ⟨ext own w4.heap.size .other,iL,lU,⟨h.zg4.move ht,hM.zk s4 fun b hb=>d4.block b (hM.lt b hb) fun q=>Pv (q▸hb),?_,za h.row fun b e=>all b (uP b e) (h.tvo b e).2.1 (fun q=>hwo.2.2.2.1 (q▸e)) (h.tvW b e),fun b e=>⟨o b fun _=>(h.tvo b e).1,fun q=>(hB _ q).elim (h.tvo b e).2.1 fun q=>by have:=uP b e;omega,(h.tvo b e).2.2⟩,⟨f',1,d2⟩,o _ fun _=>h.oW,fun b hb=>o b fun hl=>(hB b hb).elim (h.oB b) fun q=>by omega,o _ fun hl=>by omega,Pv,fun q=>by have:=hM.lt _ q;omega,fun b q=>?_⟩,?_⟩
 ·rw[d1,xB]
 ·obtain ⟨q1,q2,q3,q4,q5⟩:=h.q b q;exact ⟨o b fun _=>q1,q2,fun r=>(hB b r).elim q3 fun r=>by omega,by omega,by omega⟩
 ·exact hk4.mono fun b e q=>by
   obtain ⟨q1,q2,q3,q4,q5⟩:=h.q b q;rcases e with e|e|e
   ·exact q3 e
   ·exact hwo.2.2.2.2 (e▸q)
   ·exact q2 e
end
end Kn
end Go.Proofs.YtdlpmnmenhojfaaGreatDoor
