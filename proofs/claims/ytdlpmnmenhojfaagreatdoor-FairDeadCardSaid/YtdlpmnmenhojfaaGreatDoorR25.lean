/- Part 25 of what the proof stands on: KnMay, KnCheck, KnAccess, KnStep, KnShA. -/
import Derived.Test.YtdlpmnmenhojfaaGreatDoorR15
import Derived.Test.YtdlpmnmenhojfaaGreatDoorR20
import Derived.Test.YtdlpmnmenhojfaaGreatDoorR21
import Derived.Test.YtdlpmnmenhojfaaGreatDoorR22
set_option linter.unusedVariables false
set_option maxHeartbeats 40000000
set_option maxRecDepth 100000
variable {zP:Prop}
namespace Go.Proofs.YtdlpmnmenhojfaaGreatDoor
open Go.IntKind renaming i64->Z,u64->J
open Go.Value renaming int->E,pointer->Y,slice->Sl
open Option renaming none->O,some->V
open Go.Obj renaming cells->Ce
open Go.Ending renaming returned->Rt
open Go.Proofs.Tryz renaming prog->Tp
namespace Kn
open Go.RowKit Asm
theorem a68.Q1 (h:zP:=by
 exact J3):zP:=h
open a68 in
theorem zoz {o xa xb xc xv xm xw n:Int} {lib:Bool} (w:World) (hn:0≤n∧n≤4000) (ho:o=37∨o=38∨o=39∨o=40∨o=41∨o=42∨o=43) (h:vI ⟨o,xa,xb,xc,xv,xm,xw⟩ n lib=true):Calls Tp 210 #[.agg #[E Z o,E Z xa,E Z xb,E Z xc,E J xv,E Z xm,E Z xw],E Z n, .bool lib] w fun e w'=>e=Rt (.bool true)∧Below w.heap.size w w':=by
 exact J1
theorem a69.Q1 (h:zP:=by
 exact J3):zP:=h
open a69 in
theorem zpl {o xa xb xc xv xm xw n:Int} {lib:Bool} (w:World) (hn:0≤n∧n≤4000) (ho:o=44∨o=45∨o=46∨o=47∨o=48∨o=49∨o=50) (h:vI ⟨o,xa,xb,xc,xv,xm,xw⟩ n lib=true):Calls Tp 210 #[.agg #[E Z o,E Z xa,E Z xb,E Z xc,E J xv,E Z xm,E Z xw],E Z n, .bool lib] w fun e w'=>e=Rt (.bool true)∧Below w.heap.size w w':=by
 exact J1
theorem a70.Q1 (h:zP:=by
 rcases hX with ⟨rfl,rfl⟩ |⟨rfl,hx0,hx1,hx2⟩ |⟨rfl,rfl,rfl,hx2⟩<;>rcases ho with rfl|rfl|rfl|rfl|rfl|rfl|rfl|rfl
 all_goals first
  |exact absurd rfl (hQ rfl)
  |exact absurd hx2 Y2
  |skip
 all_goals (try clear hx2);(try clear hQ)
 all_goals
  simp only[Gm,hasB,JR,Gj,kJ,gy,Int.reduceBEq,Int.reduceLE,decide_true,decide_false,Bool.or_true,Bool.or_false,Bool.and_false] at HF HA HB HC HN
  go_enter Tryz.func210,Tryz.ntmps210
  go_wp2_with fail
  refine (HF.out _).mono ?_
  rintro e w1 ⟨rfl,rfl⟩
  go_wp2_with fail
  refine (HA.out _).mono ?_
  rintro e w1 ⟨rfl,rfl⟩
  go_wp2_with fail
  refine (HB.out _).mono ?_
  rintro e w1 ⟨rfl,rfl⟩
  go_wp2_with fail
  refine (HC.out _).mono ?_
  rintro e w1 ⟨rfl,rfl⟩
  go_wp2_with fail
  refine (HN.out _).mono ?_
  rintro e w1 ⟨rfl,hb1⟩
  have aL:=Y0 hb1
  have x5:=(hb1.cell (p:=⟨w.heap.size,5,O⟩) Y7).trans (World.cell?_alloc_at _ _ _ _ rfl)
  have x6:=(hb1.cell (p:=⟨w.heap.size,6,O⟩) Y7).trans (World.cell?_alloc_at _ _ _ _ rfl)
  clear hb1
  go_wp2_with fail
  go_ret
  exact ⟨rfl,((Below.refl _ _).alloc (Nat.le_refl _) _).trans (aL.out.mono Y7)⟩):zP:=h
open a70 in
theorem znT {o xa xb xc xv xm xw n:Int} {lib:Bool} (w:World) (hn:0≤n∧n≤4000) (ho:o=51∨o=52∨o=53∨o=54∨o=55∨o=56∨o=57∨o=58) (h:vI ⟨o,xa,xb,xc,xv,xm,xw⟩ n lib=true):Calls Tp 210 #[.agg #[E Z o,E Z xa,E Z xb,E Z xc,E J xv,E Z xm,E Z xw],E Z n, .bool lib] w fun e w'=>e=Rt (.bool true)∧Below w.heap.size w w':=by
 exact J1
theorem zpA (x:zx) (n:Int) (lib:Bool) (w:World) (hn:0≤n∧n≤4000) (h:vI x n lib=true):Calls Tp 210 #[.agg (zS x),E Z n, .bool lib] w fun e w'=>e=Rt (.bool true)∧Below w.heap.size w w':=by
 have ho:=(vH h).1;obtain ⟨o,xa,xb,xc,xv,xm,xw⟩:=x;simp only at ho;by_cases h1:o≤5
 ·exact zsZ (o:=o) w hn Y1 h
 by_cases h6:o≤11
 ·exact zsl (o:=o) w hn Y1 h
 by_cases h12:o≤16
 ·exact zoU (o:=o) w hn Y1 h
 by_cases h17:o≤22
 ·exact znZ (o:=o) w hn Y1 h
 by_cases h23:o≤29
 ·exact zqp (o:=o) w hn Y1 h
 by_cases h30:o≤36
 ·exact zpV (o:=o) w hn Y1 h
 by_cases h37:o≤43
 ·exact zoz (o:=o) w hn Y1 h
 by_cases h44:o≤50
 ·exact zpl (o:=o) w hn Y1 h
 exact znT (o:=o) w hn Y1 h
def vK (w:World) (g:Nat) (l:List zx):Prop:= ∀(k:Nat) (h:k<l.length) (j:Nat) (u:Value),(zS l[k])[j]?=some u→w.cell? ⟨g,k*7+j,O⟩=some u
theorem vK.below {w w':World} {g:Nat} {l:List zx} (h:vK w g l) (hg:g<w.heap.size) (hb:Below w.heap.size w w'):vK w' g l:=fun k hk j u hu=>(hb.cell (p:=⟨g,k*7+j,O⟩) hg).trans (h k hk j u hu)
theorem vK.cells {w:World} {g:Nat} {l:List zx} (h:vK w g l) {k:Nat} (hk:k<l.length) {xo xa xb xc xv xm xw:Int} (e:l[k]=⟨xo,xa,xb,xc,xv,xm,xw⟩):w.cell? ⟨g,k*7,O⟩=V (E Z xo)∧w.cell? ⟨g,k*7+1,O⟩=V (E Z xa)∧w.cell? ⟨g,k*7+2,O⟩=V (E Z xb)∧w.cell? ⟨g,k*7+3,O⟩=V (E Z xc)∧w.cell? ⟨g,k*7+4,O⟩=V (E J xv)∧w.cell? ⟨g,k*7+5,O⟩=V (E Z xm)∧w.cell? ⟨g,k*7+6,O⟩=V (E Z xw):=by
 have q:=h k hk;rw[e] at q;exact ⟨q 0 _ rfl,q 1 _ rfl,q 2 _ rfl,q 3 _ rfl,q 4 _ rfl,q 5 _ rfl,q 6 _ rfl⟩
theorem zdy {w:World} {g n c:Nat} {l:List zx} {lib:Bool} (h:vK w g l) (hg:g<w.heap.size) (hn:n=l.length) (hl:l.length≤2048) (hmay: ∀x∈l,vI x l.length lib=true):
  Calls Tp 143 #[Sl (V ⟨g,0,O⟩) n c, .bool lib] w fun e w'=>e=Rt .nilIface∧Below w.heap.size w w':=by
 have H:=Y0 h;have HN:=Y0 hn;have HM:Hid (∀k (hk:k<l.length) (W:World),Calls Tp 210 #[.agg (zS l[k]),E Z n, .bool lib] W fun e w'=>e=Rt (.bool true)∧Below W.heap.size W w'):=Y0 fun k hk W=>by
  rw[hn];exact zpA _ _ _ W ⟨by omega,by omega⟩ (hmay _ (List.getElem_mem hk))
 have dV:(n:Int)≤2048:=Y1;clear h hn hmay;go_enter Tryz.func143,Tryz.ntmps143;go_wp2_with fail;go_loopw [14] (fun cv wr=> ∃k:Nat,k≤n∧cv=E Z k∧Hid (Below w.heap.size w wr)) (fun cv _=>n - (intOf cv).toNat);case atStart=>exact ⟨0,by omega,rfl,Y0 (Below.refl _ _)⟩
 case round=>
  obtain ⟨k,hk,rfl,HB⟩:=hrel;by_cases hlt:k<n
  ·have hkl:k<l.length:=by rw[←HN.out];exact hlt
   have HC:=Y0 (HM.out k hkl);have hcs:=(H.out.below hg HB.out);obtain ⟨xo,xa,xb,xc,xv,xm,xw,hx⟩: ∃xo xa xb xc xv xm xw,l[k]=⟨xo,xa,xb,xc,xv,xm,xw⟩:=⟨_,_,_,_,_,_,_,rfl⟩;obtain ⟨c0,c1,c2,c3,c4,c5,c6⟩:=hcs.cells hkl hx;rw[hx] at HC;unfold zS at HC;have dL:(k:Int)<(n:Int):=Y1;have hsz:=HB.out.size;clear hcs hx;go_wp2_with fail;refine (HC.out _).mono ?_;rintro e w2 ⟨rfl,hb2⟩;have aP:=Y0 (HB.out.trans ((((Below.refl wr.heap.size wr).alloc (Nat.le_refl _) _).trans (hb2.mono Y7)).mono hsz));clear hb2;go_wp2_with fail;go_roundw;case rel=>exact ⟨k+1,by omega,by go_num,aP⟩
   case measure=>simp[intOf];omega
  ·have hkn:k=n:=Y1;subst hkn;go_wp2_with fail;go_ret;exact ⟨rfl,HB.out⟩
theorem zhc (w:World) (a b:Obj):((w.alloc a).alloc b).heap[w.heap.size+1]?=some b:=by
 have:=heap_alloc_new (w.alloc a) b;rwa[World.size_alloc] at this
theorem vK.one {W:World} {g:Nat} {x:zx} {t:TypeId} (h:W.heap[g]?=V (.cells (zS x) t (0,0))):vK W g [x]:=fun k hk j u hu=>by
 have hk0:k=0:=by simp at hk;omega
 subst hk0
 rw[ze h]
 simpa using hu
theorem zgW (x:zx) (n:Int) (lib:Bool) (w:World) (hn:0≤n∧n≤4000) (hv:0≤x.v) (h:vI x n lib=true):
  Calls Tp 233 #[.agg (zS x),E Z n] w fun e w'=>e=Rt (.bool true)∧Below w.heap.size w w':=by
 have hO:=(vH h).1;have hN:=(vH h).2.2.2.2.2.2.1;have hB:=zmS h;obtain ⟨xo,xa,xb,xc,xv,xm,xw⟩:=x;simp only at hO hv;have hL:=zdT h;have HK:Hid (∀(W:World) (g:Nat),vK W g [zar ⟨xo,xa,xb,xc,xv,xm,xw⟩]→g<W.heap.size→Calls Tp 143 #[Sl (V ⟨g,0,O⟩) 1 1, .bool (xo !=22)] W fun e w'=>e=Rt .nilIface∧Below W.heap.size W w'):=Y0 fun W g hc hg=>zdy hc hg rfl Y7 (by intro y hy;simp at hy;subst hy;exact hB);have hcv:IntKind.u64.wrap n=n:=Y22;by_cases hj:xo=12∨xo=13∨xo=14∨xo=15
 ·have hlt:xv<n:=by unfold Gv at hN;rw[if_pos hj] at hN;simpa using hN
  unfold zar at HK;simp only[if_pos hj] at HK;clear hN hB hL h hO;unfold zS;rcases hj with rfl|rfl|rfl|rfl
  all_goals
   go_enter Tryz.func233,Tryz.ntmps233
   go_wp2_with fail
   refine (HK.out _ _ ?_ ?_).mono ?_
   ·exact vK.one (zhc _ _ _)
   ·simp
   rintro e w1 ⟨rfl,hb1⟩
   have aL:=Y0 hb1
   clear hb1
   go_wp2_with fail
   go_ret
   exact ⟨rfl,(((Below.refl w.heap.size w).alloc (Nat.le_refl _) _).alloc Y7 _).trans (aL.out.mono Y8)⟩
 ·have h1:(xo==12)=false:=beq_eq_false_iff_ne.2 Y1;have h2:(xo==13)=false:=beq_eq_false_iff_ne.2 Y1;have h3:(xo==14)=false:=beq_eq_false_iff_ne.2 Y1;have h4:(xo==15)=false:=beq_eq_false_iff_ne.2 Y1;unfold zar at HK;simp only[if_neg hj] at HK;clear hN hB hL h hO hj;unfold zS;go_enter Tryz.func233,Tryz.ntmps233;go_wp2_with fail;refine (HK.out _ _ ?_ ?_).mono ?_
  ·exact vK.one (zhc _ _ _)
  ·simp
  rintro e w1 ⟨rfl,hb1⟩;have aL:=Y0 hb1;clear hb1;go_wp2_with fail;go_ret;exact ⟨rfl,(((Below.refl w.heap.size w).alloc (Nat.le_refl _) _).alloc Y7 _).trans (aL.out.mono Y8)⟩
def Zf (w:World) (bx:Nat) (x:zx):Prop:=w.cell? ⟨bx,0,O⟩=V (E Z x.op)∧w.cell? ⟨bx,1,O⟩=V (E Z x.a)∧w.cell? ⟨bx,2,O⟩=V (E Z x.b)∧w.cell? ⟨bx,3,O⟩=V (E Z x.c)∧w.cell? ⟨bx,4,O⟩=V (E J x.v)∧w.cell? ⟨bx,5,O⟩=V (E Z x.m)∧w.cell? ⟨bx,6,O⟩=V (E Z x.w)
theorem Zf.of {w:World} {bx:Nat} {x:zx} {t:TypeId} (h:w.heap[bx]?=V (.cells (zS x) t (0,0))):Zf w bx x:=⟨ze h 0,ze h 1,ze h 2,ze h 3,ze h 4,ze h 5,ze h 6⟩
def zby (w:World) (X gc gw:Nat) (r:Option (Int×Mem)) (e:Ending) (w':World):Prop:=match r with
 |none=>(∃v ev,e=Rt (.tuple #[E J v,ev])∧Som ev)∧Below w.heap.size w w'
 |some (v,m')=>e=Rt (.tuple #[E J v, .nilIface])∧Zn w' X gc gw m'∧Keeps (fun b=>b=X∨b=gc) w w'
theorem znN (m:Mem) (a o v:Int):m.acc 0 a o v=m.acc 0 a 0 0:=by simp[Mem.acc]
theorem zeq (m:Mem) (k a o v:Int) (hk:k≠4):m.acc k a o v=m.acc k a 0 v:=by simp[Mem.acc,hk]
def Gl (f:Frame) (m:Mem) (x:zx):Option (Int×Mem):=(m.acc (ZT x.op) (vk f x) (rg f x.a) (if x.op=21 then rg f x.c else rg f x.a)).map fun p=>(if x.op=18 then rg f x.a else p.1,p.2)
theorem Zn.below' {w w':World} {X gc gw:Nat} {m:Mem} (h:Zn w X gc gw m) (k:Below w.heap.size w w'):Zn w' X gc gw m:=h.zk fun b hb=>by
 obtain ⟨l1,l2,l3⟩:=h.lt
 exact k.block b (by rcases hb with rfl|rfl|rfl<;>assumption)
section
variable {w:World} {own:Own} {b o:Nat} {t:TypeId} {P S:List Value} {tb tk:Tag} {n:Nat} {f:Frame} {bv:Value}
theorem zo2 (v:Value) (w:World):(Go.method 565 79 v "Load").run Tp w= .ok (277,v) w:=Y4
theorem zks (v:Value) (w:World):(Go.method 565 79 v "Store").run Tp w= .ok (97,v) w:=Y4
theorem zp9 (v:Value) (w:World):(Go.method 565 79 v "Swap").run Tp w= .ok (332,v) w:=Y4
theorem zsy (v:Value) (w:World):(Go.method 565 79 v "Add").run Tp w= .ok (174,v) w:=Y4
theorem zrE (v:Value) (w:World):(Go.method 565 79 v "Cas").run Tp w= .ok (275,v) w:=Y4
theorem zvt (a:Addr) (w:World):(Go.nilAhead 565 79 (Y (some a)) "Cas").run Tp w= .ok (some false) w:=Y4
theorem ziJ (h:bB w own b o t P S tb tk n f bv) {X gc gw:Nat} {m:Mem} (hm:Zn w X gc gw m) (x:zx) (ho:x.op=17) (ha:0≤x.a∧x.a<32) (hb:x.b= -1∨0≤x.b∧x.b<32) (hv:Zm x.v):
  Calls Tp 235 #[Y (V ⟨b,o,O⟩), .agg (zS x), .iface 79 (Y (V ⟨X,0,O⟩))] w (zby w X gc gw (Gl f m x)):=by
 obtain ⟨k,hk⟩:=Int.eq_ofNat_of_zero_le ha.1
 have hk2:k<32:=Y1
 have dL:(0:Int)≤(k:Int)∧(k:Int)<32:=Y1
 obtain ⟨w1,hw1⟩: ∃w1,w1=w.alloc (Ce (zS x) 111):=⟨_,rfl⟩
 have hbx:Below w.heap.size w w1:=Y58
 have hz:w1.heap[w.heap.size]?=V (Ce (zS x) 111 (0,0)):=Y34
 have hlt:=h.lens.lt
 have ig: ∀W,Below w1.heap.size w1 W→Lens W b o t P S f bv:=fun W hW=>(h.lens.of_block (hbx.block b hlt)).of_block (hW.block b (Nat.lt_of_lt_of_le hlt hbx.size))
 have hBx: ∀W,Below w1.heap.size w1 W→Zf W w.heap.size x:=fun W hW=>Zf.of ((hW.block _ (zo hz)).trans hz)
 have aF: ∀W,Below w1.heap.size w1 W→Below w1.heap.size w1 W∧W.cell? ⟨b,o+1+k,O⟩=V (E J (f.r.getD k 0))∧Zf W w.heap.size x:=fun W hW=>⟨hW,(ig W hW).reg h.ok.len hk2,hBx W hW⟩
 have fZ: ∀W,Below w1.heap.size w1 W→Calls Tp 183 #[Y (V ⟨b,o,O⟩), .agg (zS x)] W fun e w'=>e=Rt (E J (vk f x))∧Below w1.heap.size w1 w'∧w'.cell? ⟨b,o+1+k,O⟩=V (E J (f.r.getD k 0))∧Zf w' w.heap.size x:=fun W hW=>(GA (ig W hW) h.ok.r h.ok.len x hv hb).mono fun e w' ⟨p,q⟩=>⟨p,aF _ (hW.trans (q.mono hW.size))⟩
 have lG: ∀W,Below w1.heap.size w1 W→Zn W X gc gw m:=fun W hW=>(hm.below' hbx).below' hW
 have hBW: ∀W,Below w1.heap.size w1 W→Below w.heap.size w W:=fun W hW=>hbx.trans (hW.mono hbx.size)
 unfold Gl
 obtain ⟨xo,xa,xb,xc,xv,xm,xw⟩:=x
 unfold Zf zS at*
 simp only at ho hk ha hb hv aF fZ hw1 ⊢
 subst ho hk
 have hr1:Zm (f.r.getD k 0):=Vm h.ok.r k
 have had:Zm (vk f ⟨17,k,xb,xc,xv,xm,xw⟩):=by
  unfold vk word
  simp only
  split
  ·exact hv
  ·unfold Zm;omega
 have hrg:rg f (k:Int)=f.r.getD k 0:=rfl
 rw[hrg]
 generalize f.r.getD k 0=ra at*
 generalize vk f ⟨17,k,xb,xc,xv,xm,xw⟩=ad at*
 have hrr:((m.acc (ZT 17) ad ra (if (17:Int)=21 then ra else ra)).map fun p=>(if (17:Int)=18 then ra else p.1,p.2))=(m.acc 0 ad 0 0).map fun p=>(p.1,p.2):=by
  rw[show ZT 17=0 from rfl,znN];rfl
 change Calls _ _ _ _ (zby w X gc gw ((m.acc (ZT 17) ad ra (if (17:Int)=21 then ra else ra)).map fun p=>(if (17:Int)=18 then ra else p.1,p.2)))
 rw[hrr]
 have iA:=Y0 had
 have lu:=Y0 hr1
 have iR:Hid (∀W,Below w1.heap.size w1 W→Calls Tp 277 #[Y (V ⟨X,0,O⟩),E J ad] W (gN W X gc gw (m.acc 0 ad 0 0))):=Y0 fun W hW=>zcs (lG W hW) ad iA.out
 have dM:=Y0 hBW
 have aS:=Y0 aF
 have qV:=Y0 fZ
 have b0:=Below.refl w1.heap.size w1
 obtain ⟨-,r0,q0,q1,q2,q3,q4,q5,q6⟩:=aF w1 b0
 clear h hm fZ aF lG hb ha hbx hv hz ig hBx had hr1 hlt hBW hrg hrr
 have mo:=fun (v:Value) (W:World)=>zo2 v W
 generalize m.acc 0 ad 0 0=r at*
 go_enter Tryz.func235,Tryz.ntmps235
 go_wp2_with fail
 rw[←hw1]
 clear hw1
 go_region_held3 (fun W=>Below w1.heap.size w1 W∧W.cell? ⟨b,o+1+k,O⟩=V (E J ra)∧W.cell? ⟨w.heap.size,0,O⟩=V (E Z 17)∧W.cell? ⟨w.heap.size,1,O⟩=V (E Z k)∧W.cell? ⟨w.heap.size,2,O⟩=V (E Z xb)∧W.cell? ⟨w.heap.size,3,O⟩=V (E Z xc)∧W.cell? ⟨w.heap.size,4,O⟩=V (E J xv)∧W.cell? ⟨w.heap.size,5,O⟩=V (E Z xm)∧W.cell? ⟨w.heap.size,6,O⟩=V (E Z xw)) (exact aS.out _ Y6)
  (first|(go_at_call 183;refine (qV.out _ Y6).mono ?_;rintro e w2 ⟨rfl,y0,y1,y2,y3,y4,y5,y6,y7,y8⟩))
 clear q0 q1 q2 q3 q4 q5 q6 r0
 have HY:=Y0 y0
 go_wp2_with fail
 have hY2:Below w1.heap.size w1 w2:=HY.out
 refine (iR.out _ hY2).mono ?_
 have fI:=Y0 hY2
 clear hY2
 intro e w3 hq
 cases r with
 |none=>
  obtain ⟨⟨ev,rfl,hev⟩,hb3⟩:=hq
  have aY:=Y0 hb3
  have HE:=Y0 hev
  clear hb3 hev
  go_wp2_with fail
  go_ret2
  exact ⟨⟨_,_,rfl,HE.out⟩,(dM.out _ fI.out).trans (aY.out.mono (dM.out _ fI.out).size)⟩
 |some p=>
  obtain ⟨was,m'⟩:=p
  obtain ⟨rfl,eP,hk3⟩:=hq
  have fV:=Y0 eP
  have fE:=Y0 hk3
  clear eP hk3
  go_wp2_with fail
  go_ret2
  exact ⟨rfl,fV.out,(Keeps.zO (dM.out _ fI.out)).trans fE.out fun _ hx=>Or.inl hx⟩
theorem zjc (h:bB w own b o t P S tb tk n f bv) {X gc gw:Nat} {m:Mem} (hm:Zn w X gc gw m) (x:zx) (ho:x.op=18) (ha:0≤x.a∧x.a<32) (hb:x.b= -1∨0≤x.b∧x.b<32) (hv:Zm x.v):
  Calls Tp 235 #[Y (V ⟨b,o,O⟩), .agg (zS x), .iface 79 (Y (V ⟨X,0,O⟩))] w (zby w X gc gw (Gl f m x)):=by
 obtain ⟨k,hk⟩:=Int.eq_ofNat_of_zero_le ha.1
 have hk2:k<32:=Y1
 have dL:(0:Int)≤(k:Int)∧(k:Int)<32:=Y1
 obtain ⟨w1,hw1⟩: ∃w1,w1=w.alloc (Ce (zS x) 111):=⟨_,rfl⟩
 have hbx:Below w.heap.size w w1:=Y58
 have hz:w1.heap[w.heap.size]?=V (Ce (zS x) 111 (0,0)):=Y34
 have hlt:=h.lens.lt
 have ig: ∀W,Below w1.heap.size w1 W→Lens W b o t P S f bv:=fun W hW=>(h.lens.of_block (hbx.block b hlt)).of_block (hW.block b (Nat.lt_of_lt_of_le hlt hbx.size))
 have hBx: ∀W,Below w1.heap.size w1 W→Zf W w.heap.size x:=fun W hW=>Zf.of ((hW.block _ (zo hz)).trans hz)
 have aF: ∀W,Below w1.heap.size w1 W→Below w1.heap.size w1 W∧W.cell? ⟨b,o+1+k,O⟩=V (E J (f.r.getD k 0))∧Zf W w.heap.size x:=fun W hW=>⟨hW,(ig W hW).reg h.ok.len hk2,hBx W hW⟩
 have fZ: ∀W,Below w1.heap.size w1 W→Calls Tp 183 #[Y (V ⟨b,o,O⟩), .agg (zS x)] W fun e w'=>e=Rt (E J (vk f x))∧Below w1.heap.size w1 w'∧w'.cell? ⟨b,o+1+k,O⟩=V (E J (f.r.getD k 0))∧Zf w' w.heap.size x:=fun W hW=>(GA (ig W hW) h.ok.r h.ok.len x hv hb).mono fun e w' ⟨p,q⟩=>⟨p,aF _ (hW.trans (q.mono hW.size))⟩
 have lG: ∀W,Below w1.heap.size w1 W→Zn W X gc gw m:=fun W hW=>(hm.below' hbx).below' hW
 have hBW: ∀W,Below w1.heap.size w1 W→Below w.heap.size w W:=fun W hW=>hbx.trans (hW.mono hbx.size)
 unfold Gl
 obtain ⟨xo,xa,xb,xc,xv,xm,xw⟩:=x
 unfold Zf zS at*
 simp only at ho hk ha hb hv aF fZ hw1 ⊢
 subst ho hk
 have hr1:Zm (f.r.getD k 0):=Vm h.ok.r k
 have had:Zm (vk f ⟨18,k,xb,xc,xv,xm,xw⟩):=by
  unfold vk word
  simp only
  split
  ·exact hv
  ·unfold Zm;omega
 have hrg:rg f (k:Int)=f.r.getD k 0:=rfl
 rw[hrg]
 generalize f.r.getD k 0=ra at*
 generalize vk f ⟨18,k,xb,xc,xv,xm,xw⟩=ad at*
 have hrr:((m.acc (ZT 18) ad ra (if (18:Int)=21 then ra else ra)).map fun p=>(if (18:Int)=18 then ra else p.1,p.2))=(m.acc 1 ad 0 ra).map fun p=>(ra,p.2):=by
  rw[show ZT 18=1 from rfl,zeq _ _ _ _ _ Y2];rfl
 change Calls _ _ _ _ (zby w X gc gw ((m.acc (ZT 18) ad ra (if (18:Int)=21 then ra else ra)).map fun p=>(if (18:Int)=18 then ra else p.1,p.2)))
 rw[hrr]
 have iA:=Y0 had
 have lu:=Y0 hr1
 have iR:Hid (∀W,Below w1.heap.size w1 W→Calls Tp 97 #[Y (V ⟨X,0,O⟩),E J ad,E J ra] W (zgS W X gc gw (m.acc 1 ad 0 ra))):=Y0 fun W hW=>zbF (lG W hW) ad ra iA.out lu.out
 have dM:=Y0 hBW
 have aS:=Y0 aF
 have qV:=Y0 fZ
 have b0:=Below.refl w1.heap.size w1
 obtain ⟨-,r0,q0,q1,q2,q3,q4,q5,q6⟩:=aF w1 b0
 clear h hm fZ aF lG hb ha hbx hv hz ig hBx had hr1 hlt hBW hrg hrr
 have mo:=fun (v:Value) (W:World)=>zks v W
 generalize m.acc 1 ad 0 ra=r at*
 go_enter Tryz.func235,Tryz.ntmps235
 go_wp2_with fail
 rw[←hw1]
 clear hw1
 go_region_held3 (fun W=>Below w1.heap.size w1 W∧W.cell? ⟨b,o+1+k,O⟩=V (E J ra)∧W.cell? ⟨w.heap.size,0,O⟩=V (E Z 18)∧W.cell? ⟨w.heap.size,1,O⟩=V (E Z k)∧W.cell? ⟨w.heap.size,2,O⟩=V (E Z xb)∧W.cell? ⟨w.heap.size,3,O⟩=V (E Z xc)∧W.cell? ⟨w.heap.size,4,O⟩=V (E J xv)∧W.cell? ⟨w.heap.size,5,O⟩=V (E Z xm)∧W.cell? ⟨w.heap.size,6,O⟩=V (E Z xw)) (exact aS.out _ Y6)
  (first|(go_at_call 183;refine (qV.out _ Y6).mono ?_;rintro e w2 ⟨rfl,y0,y1,y2,y3,y4,y5,y6,y7,y8⟩))
 clear q0 q1 q2 q3 q4 q5 q6 r0
 have HY:=Y0 y0
 go_wp2_with fail
 have hY2:Below w1.heap.size w1 w2:=HY.out
 refine (iR.out _ hY2).mono ?_
 have fI:=Y0 hY2
 clear hY2
 intro e w3 hq
 cases r with
 |none=>
  obtain ⟨⟨ev,rfl,hev⟩,hb3⟩:=hq
  have aY:=Y0 hb3
  have HE:=Y0 hev
  clear hb3 hev
  go_wp2_with fail
  go_ret2
  exact ⟨⟨_,_,rfl,HE.out⟩,(dM.out _ fI.out).trans (aY.out.mono (dM.out _ fI.out).size)⟩
 |some p=>
  obtain ⟨was,m'⟩:=p
  obtain ⟨rfl,eP,hk3⟩:=hq
  have fV:=Y0 eP
  have fE:=Y0 hk3
  clear eP hk3
  go_wp2_with fail
  go_ret2
  exact ⟨rfl,fV.out,(Keeps.zO (dM.out _ fI.out)).trans fE.out fun _ hx=>Or.inl hx⟩
theorem zi6 (h:bB w own b o t P S tb tk n f bv) {X gc gw:Nat} {m:Mem} (hm:Zn w X gc gw m) (x:zx) (ho:x.op=19) (ha:0≤x.a∧x.a<32) (hb:x.b= -1∨0≤x.b∧x.b<32) (hv:Zm x.v):
  Calls Tp 235 #[Y (V ⟨b,o,O⟩), .agg (zS x), .iface 79 (Y (V ⟨X,0,O⟩))] w (zby w X gc gw (Gl f m x)):=by
 obtain ⟨k,hk⟩:=Int.eq_ofNat_of_zero_le ha.1
 have hk2:k<32:=Y1
 have dL:(0:Int)≤(k:Int)∧(k:Int)<32:=Y1
 obtain ⟨w1,hw1⟩: ∃w1,w1=w.alloc (Ce (zS x) 111):=⟨_,rfl⟩
 have hbx:Below w.heap.size w w1:=Y58
 have hz:w1.heap[w.heap.size]?=V (Ce (zS x) 111 (0,0)):=Y34
 have hlt:=h.lens.lt
 have ig: ∀W,Below w1.heap.size w1 W→Lens W b o t P S f bv:=fun W hW=>(h.lens.of_block (hbx.block b hlt)).of_block (hW.block b (Nat.lt_of_lt_of_le hlt hbx.size))
 have hBx: ∀W,Below w1.heap.size w1 W→Zf W w.heap.size x:=fun W hW=>Zf.of ((hW.block _ (zo hz)).trans hz)
 have aF: ∀W,Below w1.heap.size w1 W→Below w1.heap.size w1 W∧W.cell? ⟨b,o+1+k,O⟩=V (E J (f.r.getD k 0))∧Zf W w.heap.size x:=fun W hW=>⟨hW,(ig W hW).reg h.ok.len hk2,hBx W hW⟩
 have fZ: ∀W,Below w1.heap.size w1 W→Calls Tp 183 #[Y (V ⟨b,o,O⟩), .agg (zS x)] W fun e w'=>e=Rt (E J (vk f x))∧Below w1.heap.size w1 w'∧w'.cell? ⟨b,o+1+k,O⟩=V (E J (f.r.getD k 0))∧Zf w' w.heap.size x:=fun W hW=>(GA (ig W hW) h.ok.r h.ok.len x hv hb).mono fun e w' ⟨p,q⟩=>⟨p,aF _ (hW.trans (q.mono hW.size))⟩
 have lG: ∀W,Below w1.heap.size w1 W→Zn W X gc gw m:=fun W hW=>(hm.below' hbx).below' hW
 have hBW: ∀W,Below w1.heap.size w1 W→Below w.heap.size w W:=fun W hW=>hbx.trans (hW.mono hbx.size)
 unfold Gl
 obtain ⟨xo,xa,xb,xc,xv,xm,xw⟩:=x
 unfold Zf zS at*
 simp only at ho hk ha hb hv aF fZ hw1 ⊢
 subst ho hk
 have hr1:Zm (f.r.getD k 0):=Vm h.ok.r k
 have had:Zm (vk f ⟨19,k,xb,xc,xv,xm,xw⟩):=by
  unfold vk word
  simp only
  split
  ·exact hv
  ·unfold Zm;omega
 have hrg:rg f (k:Int)=f.r.getD k 0:=rfl
 rw[hrg]
 generalize f.r.getD k 0=ra at*
 generalize vk f ⟨19,k,xb,xc,xv,xm,xw⟩=ad at*
 have hrr:((m.acc (ZT 19) ad ra (if (19:Int)=21 then ra else ra)).map fun p=>(if (19:Int)=18 then ra else p.1,p.2))=(m.acc 2 ad 0 ra).map fun p=>(p.1,p.2):=by
  rw[show ZT 19=2 from rfl,zeq _ _ _ _ _ Y2];rfl
 change Calls _ _ _ _ (zby w X gc gw ((m.acc (ZT 19) ad ra (if (19:Int)=21 then ra else ra)).map fun p=>(if (19:Int)=18 then ra else p.1,p.2)))
 rw[hrr]
 have iA:=Y0 had
 have lu:=Y0 hr1
 have iR:Hid (∀W,Below w1.heap.size w1 W→Calls Tp 332 #[Y (V ⟨X,0,O⟩),E J ad,E J ra] W (gN W X gc gw (m.acc 2 ad 0 ra))):=Y0 fun W hW=>zmM (lG W hW) ad ra iA.out lu.out
 have dM:=Y0 hBW
 have aS:=Y0 aF
 have qV:=Y0 fZ
 have b0:=Below.refl w1.heap.size w1
 obtain ⟨-,r0,q0,q1,q2,q3,q4,q5,q6⟩:=aF w1 b0
 clear h hm fZ aF lG hb ha hbx hv hz ig hBx had hr1 hlt hBW hrg hrr
 have mo:=fun (v:Value) (W:World)=>zp9 v W
 generalize m.acc 2 ad 0 ra=r at*
 go_enter Tryz.func235,Tryz.ntmps235
 go_wp2_with fail
 rw[←hw1]
 clear hw1
 go_region_held3 (fun W=>Below w1.heap.size w1 W∧W.cell? ⟨b,o+1+k,O⟩=V (E J ra)∧W.cell? ⟨w.heap.size,0,O⟩=V (E Z 19)∧W.cell? ⟨w.heap.size,1,O⟩=V (E Z k)∧W.cell? ⟨w.heap.size,2,O⟩=V (E Z xb)∧W.cell? ⟨w.heap.size,3,O⟩=V (E Z xc)∧W.cell? ⟨w.heap.size,4,O⟩=V (E J xv)∧W.cell? ⟨w.heap.size,5,O⟩=V (E Z xm)∧W.cell? ⟨w.heap.size,6,O⟩=V (E Z xw)) (exact aS.out _ Y6)
  (first|(go_at_call 183;refine (qV.out _ Y6).mono ?_;rintro e w2 ⟨rfl,y0,y1,y2,y3,y4,y5,y6,y7,y8⟩))
 clear q0 q1 q2 q3 q4 q5 q6 r0
 have HY:=Y0 y0
 go_wp2_with fail
 have hY2:Below w1.heap.size w1 w2:=HY.out
 refine (iR.out _ hY2).mono ?_
 have fI:=Y0 hY2
 clear hY2
 intro e w3 hq
 cases r with
 |none=>
  obtain ⟨⟨ev,rfl,hev⟩,hb3⟩:=hq
  have aY:=Y0 hb3
  have HE:=Y0 hev
  clear hb3 hev
  go_wp2_with fail
  go_ret2
  exact ⟨⟨_,_,rfl,HE.out⟩,(dM.out _ fI.out).trans (aY.out.mono (dM.out _ fI.out).size)⟩
 |some p=>
  obtain ⟨was,m'⟩:=p
  obtain ⟨rfl,eP,hk3⟩:=hq
  have fV:=Y0 eP
  have fE:=Y0 hk3
  clear eP hk3
  go_wp2_with fail
  go_ret2
  exact ⟨rfl,fV.out,(Keeps.zO (dM.out _ fI.out)).trans fE.out fun _ hx=>Or.inl hx⟩
theorem zhO (h:bB w own b o t P S tb tk n f bv) {X gc gw:Nat} {m:Mem} (hm:Zn w X gc gw m) (x:zx) (ho:x.op=20) (ha:0≤x.a∧x.a<32) (hb:x.b= -1∨0≤x.b∧x.b<32) (hv:Zm x.v):
  Calls Tp 235 #[Y (V ⟨b,o,O⟩), .agg (zS x), .iface 79 (Y (V ⟨X,0,O⟩))] w (zby w X gc gw (Gl f m x)):=by
 obtain ⟨k,hk⟩:=Int.eq_ofNat_of_zero_le ha.1
 have hk2:k<32:=Y1
 have dL:(0:Int)≤(k:Int)∧(k:Int)<32:=Y1
 obtain ⟨w1,hw1⟩: ∃w1,w1=w.alloc (Ce (zS x) 111):=⟨_,rfl⟩
 have hbx:Below w.heap.size w w1:=Y58
 have hz:w1.heap[w.heap.size]?=V (Ce (zS x) 111 (0,0)):=Y34
 have hlt:=h.lens.lt
 have ig: ∀W,Below w1.heap.size w1 W→Lens W b o t P S f bv:=fun W hW=>(h.lens.of_block (hbx.block b hlt)).of_block (hW.block b (Nat.lt_of_lt_of_le hlt hbx.size))
 have hBx: ∀W,Below w1.heap.size w1 W→Zf W w.heap.size x:=fun W hW=>Zf.of ((hW.block _ (zo hz)).trans hz)
 have aF: ∀W,Below w1.heap.size w1 W→Below w1.heap.size w1 W∧W.cell? ⟨b,o+1+k,O⟩=V (E J (f.r.getD k 0))∧Zf W w.heap.size x:=fun W hW=>⟨hW,(ig W hW).reg h.ok.len hk2,hBx W hW⟩
 have fZ: ∀W,Below w1.heap.size w1 W→Calls Tp 183 #[Y (V ⟨b,o,O⟩), .agg (zS x)] W fun e w'=>e=Rt (E J (vk f x))∧Below w1.heap.size w1 w'∧w'.cell? ⟨b,o+1+k,O⟩=V (E J (f.r.getD k 0))∧Zf w' w.heap.size x:=fun W hW=>(GA (ig W hW) h.ok.r h.ok.len x hv hb).mono fun e w' ⟨p,q⟩=>⟨p,aF _ (hW.trans (q.mono hW.size))⟩
 have lG: ∀W,Below w1.heap.size w1 W→Zn W X gc gw m:=fun W hW=>(hm.below' hbx).below' hW
 have hBW: ∀W,Below w1.heap.size w1 W→Below w.heap.size w W:=fun W hW=>hbx.trans (hW.mono hbx.size)
 unfold Gl
 obtain ⟨xo,xa,xb,xc,xv,xm,xw⟩:=x
 unfold Zf zS at*
 simp only at ho hk ha hb hv aF fZ hw1 ⊢
 subst ho hk
 have hr1:Zm (f.r.getD k 0):=Vm h.ok.r k
 have had:Zm (vk f ⟨20,k,xb,xc,xv,xm,xw⟩):=by
  unfold vk word
  simp only
  split
  ·exact hv
  ·unfold Zm;omega
 have hrg:rg f (k:Int)=f.r.getD k 0:=rfl
 rw[hrg]
 generalize f.r.getD k 0=ra at*
 generalize vk f ⟨20,k,xb,xc,xv,xm,xw⟩=ad at*
 have hrr:((m.acc (ZT 20) ad ra (if (20:Int)=21 then ra else ra)).map fun p=>(if (20:Int)=18 then ra else p.1,p.2))=(m.acc 3 ad 0 ra).map fun p=>(p.1,p.2):=by
  rw[show ZT 20=3 from rfl,zeq _ _ _ _ _ Y2];rfl
 change Calls _ _ _ _ (zby w X gc gw ((m.acc (ZT 20) ad ra (if (20:Int)=21 then ra else ra)).map fun p=>(if (20:Int)=18 then ra else p.1,p.2)))
 rw[hrr]
 have iA:=Y0 had
 have lu:=Y0 hr1
 have iR:Hid (∀W,Below w1.heap.size w1 W→Calls Tp 174 #[Y (V ⟨X,0,O⟩),E J ad,E J ra] W (gN W X gc gw (m.acc 3 ad 0 ra))):=Y0 fun W hW=>zpw (lG W hW) ad ra iA.out lu.out
 have dM:=Y0 hBW
 have aS:=Y0 aF
 have qV:=Y0 fZ
 have b0:=Below.refl w1.heap.size w1
 obtain ⟨-,r0,q0,q1,q2,q3,q4,q5,q6⟩:=aF w1 b0
 clear h hm fZ aF lG hb ha hbx hv hz ig hBx had hr1 hlt hBW hrg hrr
 have mo:=fun (v:Value) (W:World)=>zsy v W
 generalize m.acc 3 ad 0 ra=r at*
 go_enter Tryz.func235,Tryz.ntmps235
 go_wp2_with fail
 rw[←hw1]
 clear hw1
 go_region_held3 (fun W=>Below w1.heap.size w1 W∧W.cell? ⟨b,o+1+k,O⟩=V (E J ra)∧W.cell? ⟨w.heap.size,0,O⟩=V (E Z 20)∧W.cell? ⟨w.heap.size,1,O⟩=V (E Z k)∧W.cell? ⟨w.heap.size,2,O⟩=V (E Z xb)∧W.cell? ⟨w.heap.size,3,O⟩=V (E Z xc)∧W.cell? ⟨w.heap.size,4,O⟩=V (E J xv)∧W.cell? ⟨w.heap.size,5,O⟩=V (E Z xm)∧W.cell? ⟨w.heap.size,6,O⟩=V (E Z xw)) (exact aS.out _ Y6)
  (first|(go_at_call 183;refine (qV.out _ Y6).mono ?_;rintro e w2 ⟨rfl,y0,y1,y2,y3,y4,y5,y6,y7,y8⟩))
 clear q0 q1 q2 q3 q4 q5 q6 r0
 have HY:=Y0 y0
 go_wp2_with fail
 have hY2:Below w1.heap.size w1 w2:=HY.out
 refine (iR.out _ hY2).mono ?_
 have fI:=Y0 hY2
 clear hY2
 intro e w3 hq
 cases r with
 |none=>
  obtain ⟨⟨ev,rfl,hev⟩,hb3⟩:=hq
  have aY:=Y0 hb3
  have HE:=Y0 hev
  clear hb3 hev
  go_wp2_with fail
  go_ret2
  exact ⟨⟨_,_,rfl,HE.out⟩,(dM.out _ fI.out).trans (aY.out.mono (dM.out _ fI.out).size)⟩
 |some p=>
  obtain ⟨was,m'⟩:=p
  obtain ⟨rfl,eP,hk3⟩:=hq
  have fV:=Y0 eP
  have fE:=Y0 hk3
  clear eP hk3
  go_wp2_with fail
  go_ret2
  exact ⟨rfl,fV.out,(Keeps.zO (dM.out _ fI.out)).trans fE.out fun _ hx=>Or.inl hx⟩
theorem zio (h:bB w own b o t P S tb tk n f bv) {X gc gw:Nat} {m:Mem} (hm:Zn w X gc gw m) (x:zx) (ho:x.op=21) (ha:0≤x.a∧x.a<32) (hb:x.b= -1∨0≤x.b∧x.b<32) (hc:0≤x.c∧x.c<32) (hne:b≠X∧b≠gc) (hv:Zm x.v):
  Calls Tp 235 #[Y (V ⟨b,o,O⟩), .agg (zS x), .iface 79 (Y (V ⟨X,0,O⟩))] w (zby w X gc gw (Gl f m x)):=by
 obtain ⟨k,hk⟩:=Int.eq_ofNat_of_zero_le ha.1
 have hk2:k<32:=Y1
 have dL:(0:Int)≤(k:Int)∧(k:Int)<32:=Y1
 obtain ⟨kc,hkc⟩:=Int.eq_ofNat_of_zero_le hc.1
 have D8:kc<32:=Y1
 have SS:(0:Int)≤(kc:Int)∧(kc:Int)<32:=Y1
 obtain ⟨w1,hw1⟩: ∃w1,w1=w.alloc (Ce (zS x) 111):=⟨_,rfl⟩
 have hbx:Below w.heap.size w w1:=Y58
 have hz:w1.heap[w.heap.size]?=V (Ce (zS x) 111 (0,0)):=Y34
 have hlt:=h.lens.lt
 have ig: ∀W,Below w1.heap.size w1 W→Lens W b o t P S f bv:=fun W hW=>(h.lens.of_block (hbx.block b hlt)).of_block (hW.block b (Nat.lt_of_lt_of_le hlt hbx.size))
 have hBx: ∀W,Below w1.heap.size w1 W→Zf W w.heap.size x:=fun W hW=>Zf.of ((hW.block _ (zo hz)).trans hz)
 have aF: ∀W,Below w1.heap.size w1 W→Below w1.heap.size w1 W∧W.cell? ⟨b,o+1+k,O⟩=V (E J (f.r.getD k 0))∧W.cell? ⟨b,o+1+kc,O⟩=V (E J (f.r.getD kc 0))∧Zf W w.heap.size x:=fun W hW=>⟨hW,(ig W hW).reg h.ok.len hk2,(ig W hW).reg h.ok.len D8,hBx W hW⟩
 have fZ: ∀W,Below w1.heap.size w1 W→Calls Tp 183 #[Y (V ⟨b,o,O⟩), .agg (zS x)] W fun e w'=>e=Rt (E J (vk f x))∧Below w1.heap.size w1 w'∧w'.cell? ⟨b,o+1+k,O⟩=V (E J (f.r.getD k 0))∧w'.cell? ⟨b,o+1+kc,O⟩=V (E J (f.r.getD kc 0))∧Zf w' w.heap.size x:=fun W hW=>(GA (ig W hW) h.ok.r h.ok.len x hv hb).mono fun e w' ⟨p,q⟩=>⟨p,aF _ (hW.trans (q.mono hW.size))⟩
 have lG: ∀W,Below w1.heap.size w1 W→Zn W X gc gw m:=fun W hW=>(hm.below' hbx).below' hW
 have hBW: ∀W,Below w1.heap.size w1 W→Below w.heap.size w W:=fun W hW=>hbx.trans (hW.mono hbx.size)
 unfold Gl
 obtain ⟨xo,xa,xb,xc,xv,xm,xw⟩:=x
 unfold Zf zS at*
 simp only at ho hk ha hb hv aF fZ hw1 hkc hc ⊢
 subst ho hk hkc
 have hr1:Zm (f.r.getD k 0):=Vm h.ok.r k
 have hr2:Zm (f.r.getD kc 0):=Vm h.ok.r kc
 have had:Zm (vk f ⟨21,k,xb,kc,xv,xm,xw⟩):=by
  unfold vk word
  simp only
  split
  ·exact hv
  ·unfold Zm;omega
 have hrg:rg f (k:Int)=f.r.getD k 0:=rfl
 rw[hrg]
 have hrg2:rg f (kc:Int)=f.r.getD kc 0:=rfl
 rw[hrg2]
 obtain ⟨ra,hra⟩: ∃ra,ra=f.r.getD k 0:=⟨_,rfl⟩
 obtain ⟨rc,hrc⟩: ∃rc,rc=f.r.getD kc 0:=⟨_,rfl⟩
 rw[←hra] at hr1 ⊢
 rw[←hrc] at hr2 ⊢
 simp only[←hra,←hrc] at aF fZ
 clear hra hrc
 generalize vk f ⟨21,k,xb,kc,xv,xm,xw⟩=ad at*
 have hrr:((m.acc (ZT 21) ad ra (if (21:Int)=21 then rc else ra)).map fun p=>(if (21:Int)=18 then ra else p.1,p.2))=(m.acc 4 ad ra rc).map fun p=>(p.1,p.2):=by
  rfl
 change Calls _ _ _ _ (zby w X gc gw ((m.acc (ZT 21) ad ra (if (21:Int)=21 then rc else ra)).map fun p=>(if (21:Int)=18 then ra else p.1,p.2)))
 rw[hrr]
 have iA:=Y0 had
 have lu:=Y0 hr1
 have dK:=Y0 hr2
 have iR:Hid (∀W,Below w1.heap.size w1 W→Calls Tp 275 #[Y (V ⟨X,0,O⟩),E J ad,E J ra,E J rc] W fun e w'=>(gN W X gc gw (m.acc 4 ad ra rc) e w')∧w'.cell? ⟨b,o+1+kc,O⟩=V (E J rc)∧w'.cell? ⟨w.heap.size,3,O⟩=V (E Z kc)):=Y0 fun W hW=>zqF (lG W hW) ad ra rc iA.out lu.out dK.out|>.mono fun e w' hq=>by
  obtain ⟨-,r0,r1,-,-,-,q3,-,-,-⟩:=aF W hW
  have hl: ∀c,c=X∨c=gc→c<w.heap.size:=fun c hc=>by
   obtain ⟨l1,l2,l3⟩:=hm.lt
   rcases hc with rfl|rfl<;>assumption
  have hsz:=(hBW W hW).size
  have hsz2:=(Nat.lt_of_lt_of_le (zo hz) hW.size)
  have hst: ∀c,c≠X→c≠gc→c<W.heap.size→w'.heap[c]?=W.heap[c]?:=fun c c1 c2 c3=>by
   generalize m.acc 4 ad ra rc=rr at hq
   cases rr with
   |none=>exact hq.2.block c c3
   |some p=>exact hq.2.2.block c c3 fun e=>e.elim c1 c2
  refine ⟨hq,(World.cell?_of_block (a:=⟨b,o+1+kc,O⟩) (hst b hne.1 hne.2 (Nat.lt_of_lt_of_le hlt hsz))).trans r1,(World.cell?_of_block (a:=⟨w.heap.size,3,O⟩) (hst _ (fun e=>?_) (fun e=>?_) hsz2)).trans q3⟩
  ·have e2:w.heap.size=X:=e
   have:=hl X (Or.inl rfl);omega
  ·have e2:w.heap.size=gc:=e
   have:=hl gc (Or.inr rfl);omega
 have dM:=Y0 hBW
 have aS:=Y0 aF
 have qV:=Y0 fZ
 have b0:=Below.refl w1.heap.size w1
 obtain ⟨-,r0,r1,q0,q1,q2,q3,q4,q5,q6⟩:=aF w1 b0
 clear h hm fZ aF lG hb ha hbx hv hz ig hBx had hr1 hlt hBW hrg hrr hr2 hrg2 hc
 have mo:=fun (v:Value) (W:World)=>zrE v W
 have hnil:=fun (W:World)=>zvt ⟨X,0,O⟩ W
 generalize m.acc 4 ad ra rc=r at*
 go_enter Tryz.func235,Tryz.ntmps235
 go_wp2_with fail
 rw[←hw1]
 clear hw1
 go_region_held3 (fun W=>Below w1.heap.size w1 W∧W.cell? ⟨b,o+1+k,O⟩=V (E J ra)∧W.cell? ⟨b,o+1+kc,O⟩=V (E J rc)∧W.cell? ⟨w.heap.size,0,O⟩=V (E Z 21)∧W.cell? ⟨w.heap.size,1,O⟩=V (E Z k)∧W.cell? ⟨w.heap.size,2,O⟩=V (E Z xb)∧W.cell? ⟨w.heap.size,3,O⟩=V (E Z kc)∧W.cell? ⟨w.heap.size,4,O⟩=V (E J xv)∧W.cell? ⟨w.heap.size,5,O⟩=V (E Z xm)∧W.cell? ⟨w.heap.size,6,O⟩=V (E Z xw)) (exact aS.out _ Y6)
  (first|(go_at_call 183;refine (qV.out _ Y6).mono ?_;rintro e w2 ⟨rfl,y0,y1,z1,y2,y3,y4,y5,y6,y7,y8⟩))
 clear q0 q1 q2 q3 q4 q5 q6 r0
 have HY:=Y0 y0
 have fI:Hid (Below w1.heap.size w1 w2.drew):=Y0 HY.out.drew
 go_wp2_with fail
 cases r with
 |none=>
  go_region_held3 (fun W=>W.cell? ⟨b,o+1+kc,O⟩=V (E J rc)∧W.cell? ⟨w.heap.size,3,O⟩=V (E Z kc)) (first|exact ⟨z1,y5⟩ |exact ⟨u1,u2⟩ |go_keep) (first|(go_at_call 275;refine (iR.out w2.drew fI.out).mono ?_;rintro e w3 ⟨⟨⟨ev,rfl,hev⟩,hb3⟩,u1,u2⟩))
  have aY:=Y0 hb3
  have HE:=Y0 hev
  clear hb3 hev
  go_wp2_with fail
  go_ret2
  exact ⟨⟨_,_,rfl,HE.out⟩,(dM.out _ fI.out).trans (aY.out.mono (dM.out _ fI.out).size)⟩
 |some p=>
  obtain ⟨was,m'⟩:=p
  go_region_held3 (fun W=>W.cell? ⟨b,o+1+kc,O⟩=V (E J rc)∧W.cell? ⟨w.heap.size,3,O⟩=V (E Z kc)) (first|exact ⟨z1,y5⟩ |exact ⟨u1,u2⟩ |go_keep) (first|(go_at_call 275;refine (iR.out w2.drew fI.out).mono ?_;rintro e w3 ⟨⟨rfl,eP,hk3⟩,u1,u2⟩))
  have fV:=Y0 eP
  have fE:=Y0 hk3
  clear eP hk3
  go_wp2_with fail
  go_ret2
  exact ⟨rfl,fV.out,(Keeps.zO (dM.out _ fI.out)).trans fE.out fun _ hx=>Or.inl hx⟩
theorem zfJ (h:bB w own b o t P S tb tk n f bv) {X gc gw:Nat} {m:Mem} (hm:Zn w X gc gw m) (x:zx) (ho:17≤x.op∧x.op≤21) (ha:0≤x.a∧x.a<32) (hb:x.b= -1∨0≤x.b∧x.b<32) (hc:x.op=21→0≤x.c∧x.c<32) (hne:b≠X∧b≠gc) (hv:Zm x.v):
  Calls Tp 235 #[Y (V ⟨b,o,O⟩), .agg (zS x), .iface 79 (Y (V ⟨X,0,O⟩))] w (zby w X gc gw (Gl f m x)):=by
 have e:x.op=17∨x.op=18∨x.op=19∨x.op=20∨x.op=21:=Y1;rcases e with e|e|e|e|e
 ·exact ziJ h hm x e ha hb hv
 ·exact zjc h hm x e ha hb hv
 ·exact zi6 h hm x e ha hb hv
 ·exact zhO h hm x e ha hb hv
 ·exact zio h hm x e ha hb (hc e) hne hv
end
section
variable {w:World} {own:Own} {b o:Nat} {t:TypeId} {P S:List Value} {tb tk:Tag} {n:Nat} {f:Frame} {bv:Value}
theorem Bu {l:List zx} {m:Mem} {f:Frame} {x:zx} (h:zbK l f.pc=some x):zK f l m=(if x.op=12∨x.op=13∨x.op=14∨x.op=15∨x.op=16 then ⟨(VG f x).1,(VG f x).2,m⟩
  else if 17≤x.op∧x.op≤21 then
   (match m.acc (ZT x.op) (vk f x) (rg f x.a) (if x.op=21 then rg f x.c else rg f x.a) with
    |none=>⟨3,f,m⟩
    |some (was,m')=>⟨0,{ (if x.op=18 then f else vC f x.a was) with pc:=f.pc+1},m'⟩)
  else if x.op=1 then ⟨0,{ vC f x.a x.v with pc:=f.pc+1},m⟩
  else if x.op=2 then ⟨0,{ vC f x.a (rg f x.b) with pc:=f.pc+1},m⟩
  else if 3≤x.op∧x.op≤11 then ⟨0,{ vC f x.a (reckon x.op (rg f x.b) (bZ f x)) with pc:=f.pc+1},m⟩
  else ⟨1,f,m⟩):=by unfold zK;rw[h];rfl
theorem zln {l:List zx} {m:Mem} {f:Frame} (h:zbK l f.pc=none):zK f l m=⟨3,f,m⟩:=by unfold zK;rw[h]
theorem Zd.below {W W':World} {f':Frame} {n':Nat} (h:Zd w own b o t P S tb tk n' f' W) (hb:Below W.heap.size W W'):Zd w own b o t P S tb tk n' f' W':=by
 obtain ⟨own',aW,h1,h2⟩:=h;exact ⟨own',aW,h1.below hb,⟨h2.keeps.trans (Keeps.zO (X:=fun _=>False) hb) (fun _ e=>e.elim),h2.own⟩⟩
theorem zk9 (h:bB w own b o t P S tb tk n f bv) {g c L:Nat} (hL:L≤2048) (hx:(L:Int)≤f.pc) {mt:TypeId} {mv:Value}:
  Calls Tp 180 #[Y (V ⟨b,o,O⟩),Sl (V ⟨g,0,O⟩) L c, .iface mt mv] w fun e w'=>e=Rt (.tuple #[E Z 3, .nilIface])∧Below w.heap.size w w':=by
 obtain ⟨p,hp⟩:=Int.eq_ofNat_of_zero_le h.ok.pc.1;obtain ⟨cp,-,-,-⟩:=h.cells;rw[hp] at cp hx;have rM:(L:Int)≤2048:=Y1;have oG:(0:Int)≤(p:Int):=Y1;clear h;go_enter Tryz.func180,Tryz.ntmps180;go_wp2_with fail;go_ret2;exact ⟨rfl,by first|exact Below.refl _ _|exact KD (Below.refl _ _) _⟩
theorem Kz {x:zx} {n:Int} {lib:Bool} (h:vI x n lib=true):(0≤x.a∧x.a<32)∧(x.b= -1∨0≤x.b∧x.b<32)∧(x.c= -1∨0≤x.c∧x.c<32)∧(kJ x.op=false→0≤x.b∧x.b<32)∧(gy x.op=false→0≤x.c∧x.c<32):=by
 obtain ⟨-,-,-,hA,hB,hC,-⟩:=vH h;have q: ∀(r:Int) (u s:Bool),Kw r u s=true→(r= -1∨0≤r∧r<32)∧(s=false→0≤r∧r<32):=fun r u s e=>by
  unfold Kw at e
  cases u with
  |true=>
   simp at e;refine ⟨by omega,fun hs=>?_⟩;rw[hs] at e;simpa using e
  |false=>
   simp at e;exact ⟨by omega,fun _=>by omega⟩
 exact ⟨(q _ _ _ hA).2 rfl,(q _ _ _ hB).1,(q _ _ _ hC).1,(q _ _ _ hB).2,(q _ _ _ hC).2⟩
theorem Zd.from {W w':World} {f':Frame} {n':Nat} (hb:Below w.heap.size w W) (h:Zd W own b o t P S tb tk n' f' w'):Zd w own b o t P S tb tk n' f' w':=by
 obtain ⟨own',aW,h1,h2⟩:=h;exact ⟨own',aW,h1,⟨(Keeps.zO hb).trans h2.keeps fun _ e=>Or.inl e,fun i hi=>h2.own i (Nat.lt_of_lt_of_le hi hb.size)⟩⟩
theorem a71.Q5 (h:zP:=by
 obtain ⟨ha,-⟩:=Kz hmx;have hvb:0≤x.v∧x.v≤4000:=by
  have hN:=(vH hmx).2.2.2.2.2.2.1;refine ⟨nK.1,?_⟩;unfold Gv at hN;by_cases e:x.op=16
  ·rw[e] at hN;simp[Gj] at hN;omega
  ·rw[if_pos Y1] at hN;simp at hN;omega
 have HJ:Hid (∀W,Below w.heap.size w W→Calls Tp 234 #[Y (V ⟨b,o,O⟩), .agg (zS x)] W fun e w'=>e=Rt (E Z (VG f x).1)∧Zd w own b o t P S tb tk (n+1) (VG f x).2 w'):=Y0 fun W hW=>(zpr (h.below hW) hne x ho hvb ha hn).mono fun e w' ⟨p,q⟩=>⟨p,Zd.from hW q⟩
 generalize VG f x=jr at*;obtain ⟨jh,jf⟩:=jr;obtain ⟨xo,xa,xb,xc,xv,xm,xw⟩:=x;simp only at ho c0 c1 c2 c3 c4 c5 c6;unfold zS at dY HJ;clear h hc hg hmay hlv hn hx hmx nK ha hvb sj hxl hxm hpl;generalize l.length=L at*;clear hl;have El:xo=12∨xo=13∨xo=14∨xo=15∨xo=16:=Y1;clear ho;rcases El with rfl|rfl|rfl|rfl|rfl
 all_goals
  go_enter Tryz.func180,Tryz.ntmps180
  go_wp2_with fail
  refine (dY.out _).mono ?_
  rintro e w1 ⟨rfl,hb1⟩
  replace hb1:Below w.heap.size w w1:=Y73
  have CQ:=wE.out w1 hb1
  have d0:=(hb1.cell (p:=⟨g,p*7,O⟩) HG.out).trans c0
  have d1:=(hb1.cell (p:=⟨g,p*7+1,O⟩) HG.out).trans c1
  have d2:=(hb1.cell (p:=⟨g,p*7+2,O⟩) HG.out).trans c2
  have d3:=(hb1.cell (p:=⟨g,p*7+3,O⟩) HG.out).trans c3
  have d4:=(hb1.cell (p:=⟨g,p*7+4,O⟩) HG.out).trans c4
  have d5:=(hb1.cell (p:=⟨g,p*7+5,O⟩) HG.out).trans c5
  have d6:=(hb1.cell (p:=⟨g,p*7+6,O⟩) HG.out).trans c6
  have aL:=Y0 hb1
  clear hb1
  go_wp2_with fail
  refine (HJ.out _ (VX aL.out _)).mono ?_
  rintro e w3 ⟨rfl,hq⟩
  have HQ:=Y0 hq
  clear hq
  go_wp2_with fail
  go_ret2
  exact ⟨rfl,HQ.out⟩):zP:=h
open a71 in
theorem zhD (h:bB w own b o t P S tb tk n f bv) (hne:tb≠tk) {g c:Nat} {l:List zx} {lib:Bool} (hc:vK w g l) (hg:g<w.heap.size) (hl:l.length≤2048) (hmay: ∀x∈l,vI x l.length lib=true) (hlv: ∀x∈l,Zm x.v) (hn:n≤100000) {mt:TypeId} {mv:Value} {x:zx} (hx:Zc l f.pc=some x) (ho:12≤x.op∧x.op≤16) (m:Mem):
  Calls Tp 180 #[Y (V ⟨b,o,O⟩),Sl (V ⟨g,0,O⟩) l.length c, .iface mt mv] w fun e w'=>e=Rt (.tuple #[E Z (zK f l m).how, .nilIface])∧Zd w own b o t P S tb tk (n+1) (zK f l m).f w':=by
 rw[Bu ((Kg hmay f.pc).trans hx)];rw[if_pos Y1];exact J5
theorem a72.Q5 (h:zP:=by
 have H:=Y0 h;obtain ⟨xo,xa,xb,xc,xv,xm,xw⟩:=x;simp only at ho c0 c1 c2 c3 c4 c5 c6;unfold zS at dY;clear h hc hg hmay hlv hn hx hmx nK sj hxl hxm hpl;generalize l.length=L at*;clear hl;have e1:(xo==1)=false:=beq_eq_false_iff_ne.2 Y1;have e2:(xo==2)=false:=beq_eq_false_iff_ne.2 Y1;have e3:(xo==3)=false:=beq_eq_false_iff_ne.2 Y1;have e4:(xo==4)=false:=beq_eq_false_iff_ne.2 Y1;have e5:(xo==5)=false:=beq_eq_false_iff_ne.2 Y1;have e6:(xo==6)=false:=beq_eq_false_iff_ne.2 Y1;have e7:(xo==7)=false:=beq_eq_false_iff_ne.2 Y1;have e8:(xo==8)=false:=beq_eq_false_iff_ne.2 Y1;have e9:(xo==9)=false:=beq_eq_false_iff_ne.2 Y1;have e10:(xo==10)=false:=beq_eq_false_iff_ne.2 Y1;have e11:(xo==11)=false:=beq_eq_false_iff_ne.2 Y1;have e12:(xo==12)=false:=beq_eq_false_iff_ne.2 Y1;have e13:(xo==13)=false:=beq_eq_false_iff_ne.2 Y1;have e14:(xo==14)=false:=beq_eq_false_iff_ne.2 Y1
 have e15:(xo==15)=false:=beq_eq_false_iff_ne.2 Y1;have e16:(xo==16)=false:=beq_eq_false_iff_ne.2 Y1;have e17:(xo==17)=false:=beq_eq_false_iff_ne.2 Y1;have e18:(xo==18)=false:=beq_eq_false_iff_ne.2 Y1;have e19:(xo==19)=false:=beq_eq_false_iff_ne.2 Y1;have e20:(xo==20)=false:=beq_eq_false_iff_ne.2 Y1;have e21:(xo==21)=false:=beq_eq_false_iff_ne.2 Y1;clear ho;go_enter Tryz.func180,Tryz.ntmps180;go_wp2_with fail;refine (dY.out _).mono ?_;rintro e w1 ⟨rfl,hb1⟩;replace hb1:Below w.heap.size w w1:=Y73;have CQ:=wE.out w1 hb1;have d0:=(hb1.cell (p:=⟨g,p*7,O⟩) HG.out).trans c0;have d1:=(hb1.cell (p:=⟨g,p*7+1,O⟩) HG.out).trans c1;have d2:=(hb1.cell (p:=⟨g,p*7+2,O⟩) HG.out).trans c2;have d3:=(hb1.cell (p:=⟨g,p*7+3,O⟩) HG.out).trans c3;have d4:=(hb1.cell (p:=⟨g,p*7+4,O⟩) HG.out).trans c4;have d5:=(hb1.cell (p:=⟨g,p*7+5,O⟩) HG.out).trans c5
 have d6:=(hb1.cell (p:=⟨g,p*7+6,O⟩) HG.out).trans c6;have aL:=Y0 hb1;clear hb1;go_wp2_with fail;go_ret2;exact ⟨rfl,(Zd.refl H.out (Nat.le_succ n)).below (VX aL.out _)⟩):zP:=h
open a72 in
theorem zh7 (h:bB w own b o t P S tb tk n f bv) (hne:tb≠tk) {g c:Nat} {l:List zx} {lib:Bool} (hc:vK w g l) (hg:g<w.heap.size) (hl:l.length≤2048) (hmay: ∀x∈l,vI x l.length lib=true) (hlv: ∀x∈l,Zm x.v) (hn:n≤100000) {mt:TypeId} {mv:Value} {x:zx} (hx:Zc l f.pc=some x) (ho:22≤x.op) (m:Mem):
  Calls Tp 180 #[Y (V ⟨b,o,O⟩),Sl (V ⟨g,0,O⟩) l.length c, .iface mt mv] w fun e w'=>e=Rt (.tuple #[E Z (zK f l m).how, .nilIface])∧Zd w own b o t P S tb tk (n+1) (zK f l m).f w':=by
 rw[Bu ((Kg hmay f.pc).trans hx)];rw[if_neg Y1,if_neg Y1,if_neg Y1,if_neg Y1,if_neg Y1];exact J5
end
def shV (K:Nat) (id op:Int):Value:= .agg #[Y (V ⟨K,0,O⟩),E J id,E Z op]
section
variable {w:World} {own:Own} {b o:Nat} {t:TypeId} {P S:List Value} {tb tk:Tag} {n:Nat} {f:Frame} {bv:Value}
end
end Kn
end Go.Proofs.YtdlpmnmenhojfaaGreatDoor
