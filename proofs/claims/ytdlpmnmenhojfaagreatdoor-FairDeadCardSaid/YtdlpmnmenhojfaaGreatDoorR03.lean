/- Part 3 of what the proof stands on: FrPlain, FrRoundsPlain, FrBase, FrProg, FrAny, FrOwn, FrRounds, FrLaws, zje, Row. -/
import Derived.Test.YtdlpmnmenhojfaaGreatDoorR00
import Derived.Test.YtdlpmnmenhojfaaGreatDoorRows
import Derived.Test.YtdlpmnmenhojfaaGreatDoorProg
set_option linter.unusedVariables false
set_option maxHeartbeats 40000000
set_option maxRecDepth 100000
variable {zP:Prop}
namespace Go.Proofs.YtdlpmnmenhojfaaGreatDoor
open Go.IntKind renaming i64->Z,u64->J
open Go.Value renaming int->E,pointer->Y,slice->Sl
open Option renaming none->O,some->V
open Go.Obj renaming cells->Ce
open Go.Ending renaming returned->Rt
open Go.Proofs.Tryz renaming prog->Tp
namespace Fair
structure kS where
 kind:Int
 who:Int
 draw:Int
instance:DecidableEq kS:=fun a b=>decidable_of_iff (a.kind=b.kind∧a.who=b.who∧a.draw=b.draw) (by cases a;cases b;simp)
def key (n:Nat) (x:kS):Option Nat:=
 if x.kind=1∧0≤x.who∧x.who<n then some x.who.toNat else if x.kind=2 then some n else none
def at_ (n:Nat) (l:List kS) (i:Nat):Option Nat:=(l[i]?).bind (key n)
def lp (n:Nat) (l:List kS) (k:Nat):Nat→Int
 |0=> -1
 |i+1=>if at_ n l i=some k then (i:Int) else lp n l k i
def zac (n:Nat) (l:List kS) (W:Nat):Prop:=
 ∀a,a+W≤l.length→ ∀k,k≤n→ ∃j,a≤j∧j<a+W∧at_ n l j=some k
def jL (n:Nat) (l:List kS) (window:Int):Bool:=
 decide (1≤window)&& (List.range (l.length+1 - window.toNat)).all fun a=>(List.range (n+1)).all fun k=>(List.range window.toNat).any fun d=>at_ n l (a+d)==some k
theorem Ju (n:Nat) (l:List kS) (window:Int):jL n l window=true↔1≤window∧zac n l window.toNat:=by
 unfold jL zac;simp only[Bool.and_eq_true,decide_eq_true_eq,List.all_eq_true,List.any_eq_true,List.mem_range,beq_iff_eq];refine and_congr_right fun _=>⟨fun h a ha k hk=>?_,fun h a ha k hk=>?_⟩
 ·obtain ⟨d,hd,he⟩:=h a Y1 k Y1;exact ⟨a+d,by omega,by omega,he⟩
 ·obtain ⟨j,h1,h2,he⟩:=h a Y1 k Y1;exact ⟨j - a,by omega,by rwa[show a+(j - a)=j by omega]⟩
theorem zkp (n:Nat) (l:List kS) (k i:Nat):lp n l k (i+1)=if at_ n l i=some k then (i:Int) else lp n l k i:=rfl
theorem bU (n:Nat) (l:List kS) (k i:Nat): -1≤lp n l k i∧lp n l k i<i:=by
 induction i with
 |zero=>simp[lp]
 |succ i ih=>
  unfold lp
  split
  ·omega
  ·omega
theorem zsJ (n:Nat) (l:List kS) (k i m:Nat) (h:lp n l k i<m) (hm:m<i):at_ n l m≠some k:=by
 induction i with
 |zero=>omega
 |succ i ih=>
  unfold lp at h
  split at h
  ·omega
  ·by_cases e:m=i
   ·subst e;assumption
   ·exact ih h Y1
theorem zrl (n:Nat) (l:List kS) (k i d:Nat) (h: ∀j,i≤j→j<i+d→at_ n l j≠some k):lp n l k (i+d)=lp n l k i:=by
 induction d with
 |zero=>rfl
 |succ d ih=>
  rw[show i+(d+1)=(i+d)+1 from rfl,zkp,if_neg (h _ Y1 Y1)]
  exact ih fun j h1 h2=>h j h1 Y1
theorem KL (n:Nat) (l:List kS) (W k i:Nat) (hk:k≤n) (hi:i≤l.length) (h:(W:Int)<i - lp n l k i): ¬zac n l W:=by
 intro hf;have hr:=bU n l k i;obtain ⟨j,h1,h2,he⟩:=hf (i - W) Y1 k hk;exact zsJ n l k i j Y1 Y1 he
theorem zeo (n:Nat) (l:List kS) (W:Nat) (h1: ∀i,i<l.length→ ∀k,k≤n→at_ n l i=some k→(i:Int) - lp n l k i≤W)
  (h2: ∀k,k≤n→(l.length:Int) - lp n l k l.length≤W):zac n l W:=by
 intro a ha k hk;refine Classical.byContradiction fun hno=>?_;have hno': ∀j,a≤j→j<a+W→at_ n l j≠some k:=fun j ha hb he=>hno ⟨j,ha,hb,he⟩;have e0:=zrl n l k a W hno';have r0:=bU n l k a;have hd: ∀d,a+W+d≤l.length→lp n l k (a+W+d)=lp n l k a:=by
  intro d
  induction d with
  |zero=>intro _;exact e0
  |succ d ih=>
   intro hd;have e:=ih Y1;rw[show a+W+(d+1)=(a+W+d)+1 from rfl,zkp];split
   ·rename_i hx;have:=h1 (a+W+d) Y1 k hk hx;omega
   ·exact e
 have:=hd (l.length - (a+W)) Y1;rw[show a+W+(l.length - (a+W))=l.length by omega] at this;have:=h2 k hk;omega
theorem zit (n:Nat) (l:List kS) (W:Nat) (h:l.length<W):zac n l W:=by
 intro a ha;omega
theorem holes: ∀(W:Nat) (K:Nat→Option Nat) (n:Nat),(∀k,k<n→ ∃j,j<W∧K j=some k)→n≤W:=by
 intro W
 induction W with
 |zero=>
  intro K n h
  rcases Nat.eq_zero_or_pos n with h0|h0
  ·omega
  ·obtain ⟨j,hj,_⟩:=h 0 h0
   omega
 |succ W ih=>
  intro K n h
  rcases Nat.eq_zero_or_pos n with h0|h0
  ·omega
  have:=ih (fun j=>if K j=V (n - 1) then K W else K j) (n - 1) (by
   intro k hk
   obtain ⟨j,hj,he⟩:=h k Y1
   have hne:K j≠some (n - 1):=by
    rw[he];intro e;injection e with e;omega
   by_cases hjW:j=W
   ·subst hjW
    obtain ⟨j',hj',he'⟩:=h (n - 1) Y1
    have:j'≠j:=by
     rintro rfl;exact hne he'
    exact ⟨j',by omega,by rw[if_pos he'];exact he⟩
   ·exact ⟨j,by omega,by rw[if_neg hne];exact he⟩)
  omega
theorem zcj (n:Nat) (l:List kS) (W:Nat) (hn:W≤n) (hl:W≤l.length): ¬zac n l W:=by
 intro hf;have:=holes W (at_ n l) (n+1) (fun k hk=>by
  obtain ⟨j,_,h2,he⟩:=hf 0 Y1 k Y1
  exact ⟨j,by omega,he⟩)
 omega
theorem ziq (n:Nat) (u:Nat) (d:Int) (h:u<n):key n ⟨1,u,d⟩=some u:=by
 unfold key;rw[if_pos ⟨rfl,by simp,by simpa using h⟩];simp
theorem znB (n:Nat) (v d:Int):key n ⟨2,v,d⟩=some n:=by
 unfold key;rw[if_neg Y7,if_pos rfl]
theorem zpb (n:Nat) (kd v d:Int) (h: ¬(kd=1∧0≤v∧v<n)) (h2:kd≠2):key n ⟨kd,v,d⟩=none:=by
 unfold key;rw[if_neg h,if_neg h2]
theorem zsU {n:Nat} {l:List kS} {i:Nat} {e:kS} (h:l[i]?=some e):at_ n l i=key n e:=by
 unfold at_;rw[h];rfl
theorem zjO {n:Nat} {l:List kS} {i u:Nat} (h:at_ n l i=some u) (k:Nat):lp n l k (i+1)=if k=u then (i:Int) else lp n l k i:=by
 show (if at_ n l i=some k then (i:Int) else lp n l k i)=_;rw[h];by_cases e:k=u
 ·subst e;simp
 ·rw[if_neg (by simpa using fun h=>e h.symm),if_neg e]
theorem zq2 {n:Nat} {l:List kS} {i:Nat} (h:at_ n l i=none) (k:Nat):lp n l k (i+1)=lp n l k i:=by
 show (if at_ n l i=some k then (i:Int) else lp n l k i)=_;rw[h];simp
def lcg (s:Int):Int:=IntKind.u64.wrap (IntKind.u64.wrap (s*6364136223846793005)+1442695040888963407)
def high (s:Int):Int:=lcg s/4294967296
def Gf (f:Nat) (s:Int):Nat:=(high s% (f:Int)).toNat
def ent (m x:Nat) (d:Int):kS:=if x<m then ⟨1,x,d⟩ else ⟨2,0,0⟩
def goR (m:Nat):Nat→List kS→List Nat→Int→List kS×Int
 |0,l,_,s=>(l,s)
 |f+1,l,left,s=>goR m f (l++ [ent m (left.getD (Gf (f+1) s) 0) (high s)]) (left.eraseIdx (Gf (f+1) s)) (lcg s)
def kH (m:Nat):Nat→List kS→Int→List kS
 |0,l,_=>l
 |r+1,l,s=>kH m r (goR m (m+1) l (List.range (m+1)) s).1 (goR m (m+1) l (List.range (m+1)) s).2
theorem zbD (f:Nat) (s:Int):Gf (f+1) s<f+1:=by
 unfold Gf;have h1:=Int.emod_nonneg (high s) (show ((f+1:Nat):Int)≠0 by omega);have h2:=Int.emod_lt_of_pos (high s) (show (0:Int)<((f+1:Nat):Int) by omega);omega
def Blocks (m R:Nat) (L:List kS):Prop:=
 L.length=R* (m+1)∧ ∀b,b<R→ ∀k,k≤m→ ∃j,b* (m+1)≤j∧j<b* (m+1)+(m+1)∧at_ m L j=some k
open Go.ChangeShapes Go.WideShapes Go.ChangeAt Go.RowKit
def zaG (w:World) (B:Nat) (A:Option Addr) (n:Nat) (l:List kS):Prop:=
 l.length=n∧(0<n→ ∃b off,A=some ⟨b,off,O⟩∧b<B∧ ∀i e,l[i]?=some e→
  w.cell? ⟨b,off+i*3,O⟩=V (E Z e.kind)∧w.cell? ⟨b,off+i*3+1,O⟩=V (E Z e.who)∧w.cell? ⟨b,off+i*3+2,O⟩=V (E J e.draw))
theorem zaG.at_ {w:World} {B:Nat} {A:Option Addr} {n:Nat} {l:List kS} (h:zaG w B A n l) {k:Nat} (hk:k<n):
  ∃b off e,A=some ⟨b,off,O⟩∧b<B∧l[k]?=some e∧w.cell? ⟨b,off+k*3,O⟩=V (E Z e.kind)∧w.cell? ⟨b,off+k*3+1,O⟩=V (E Z e.who)∧w.cell? ⟨b,off+k*3+2,O⟩=V (E J e.draw):=by
 obtain ⟨hl,h⟩:=h;obtain ⟨b,off,hA,hb,hc⟩:=h Y1;have hkl:k<l.length:=Y1;exact ⟨b,off,l[k],hA,hb,List.getElem?_eq_getElem hkl,hc k _ (List.getElem?_eq_getElem hkl)⟩
theorem zaG.below {w w':World} {B:Nat} {A:Option Addr} {n:Nat} {l:List kS} (h:zaG w B A n l) (hb:Below B w w'):zaG w' B A n l:=by
 refine ⟨h.1,fun h0=>?_⟩;obtain ⟨b,off,hA,qM,hc⟩:=h.2 h0;refine ⟨b,off,hA,qM,fun i e he=>?_⟩;obtain ⟨c0,c1,c2⟩:=hc i e he;exact ⟨(hb.cell (p:=⟨b,_,O⟩) qM).trans c0,(hb.cell (p:=⟨b,_,O⟩) qM).trans c1,(hb.cell (p:=⟨b,_,O⟩) qM).trans c2⟩
theorem zaG.more {w:World} {B B':Nat} {A:Option Addr} {n:Nat} {l:List kS} (h:zaG w B A n l) (hB:B≤B'):zaG w B' A n l:=by
 refine ⟨h.1,fun h0=>?_⟩;obtain ⟨b,off,hA,qM,hc⟩:=h.2 h0;exact ⟨b,off,hA,by omega,hc⟩
theorem info3:(Tryz.prog.info? 3).map (fun i=>(i.zero,i.size,i.bytes))=V (some (E Z 0),1,8):=Y4
def zbu (m:Nat) (l:List kS) (W i:Nat):Prop:= ∀j,j<i→ ∀k,k≤m→at_ m l j=some k→(j:Int) - lp m l k j≤W
theorem zdm {m:Nat} {l:List kS} {W i u:Nat} (h:zbu m l W i) (ha:at_ m l i=some u) (hg:(i:Int) - lp m l u i≤W):zbu m l W (i+1):=by
 intro j hj k hk he;by_cases e:j=i
 ·subst e;rw[ha] at he;injection he with he
  subst he;exact hg
 ·exact h j Y1 k hk he
theorem zmm {m:Nat} {l:List kS} {W i:Nat} (h:zbu m l W i) (ha:at_ m l i=none):zbu m l W (i+1):=by
 intro j hj k hk he;by_cases e:j=i
 ·subst e;rw[ha] at he;cases he
 ·exact h j Y1 k hk he
def Row (m:Nat) (l:List kS) (B i:Nat) (w:World):Prop:=w.rowIs B 3 (m+1) (fun k=> E Z (lp m l k i))
theorem gX {m:Nat} {l:List kS} {W:Nat} (h: ¬zac m l W):jL m l W=false:=by
 rw[←Bool.not_eq_true];intro hb;exact h ((Ju _ _ _).1 hb).2
theorem zaX {m:Nat} {l:List kS} {W:Nat} (h0:1≤W) (h:zac m l W):jL m l W=true:=
 (Ju _ _ _).2 ⟨by omega,h⟩
theorem zk0 (w:World) (wk:Int) (A:Option Addr) (n c:Nat) (m W:Nat) (l:List kS) (hmx:(if wk<0 then 0 else wk)=(m:Int)) (h:zaG w w.heap.size A n l) (hl:n≤100000) (hW:1≤W) (xK:W≤n) (hm:m<W):
  Calls Tp 30 #[E Z wk, .slice A n c,E Z W] w fun e w'=>e=Rt (.bool (jL m l W))∧Below w.heap.size w w':=by
 have hmk:=run_make_row' (P:=Tp) 76 3 (E Z 0) 8 Tryz.underlying76 info3 rfl Z Z (m+1) Y1 Y1;have e1:((m+1:Nat):Int)=(m:Int)+1:=Y1;rw[e1] at hmk;clear e1;have Tj:max wk 0=(m:Int):=Y1;go_enter Tryz.func30,Tryz.ntmps30;go_wp2;clear hmk hmx Tj;have uN:=World.rowIs_made w (E Z 0) (m+1) 3;go_loopw [31] (fun i wr=> ∃k:Nat,k≤m+1∧i=E Z k∧wr.rowIs w.heap.size 3 (m+1) (fun j=>if j<k then E Z (-1) else E Z 0)∧Below w.heap.size w wr) (fun i _=>m+1 - (intOf i).toNat);case atStart=>exact ⟨0,by omega,rfl,uN,(Below.refl _ _).alloc (Nat.le_refl _) _⟩
 case round=>
  clear uN;obtain ⟨k,hk,rfl,hrow,hb⟩:=hrel;by_cases hlt:k<m+1
  ·have hc:=hrow.cell hlt;have hf:=hrow.frozen k;simp only[Nat.lt_irrefl,if_false] at hc;have HR:=Y0 hrow;clear hrow;go_wp2;go_roundw;case rel=>
    refine ⟨k+1,by omega,by go_num,(HR.out.set k (E Z (-1))).congr ?_,hb.setCell (Nat.le_refl _) _⟩;intro j hj;by_cases e:j=k
    ·subst e;simp
    ·rw[if_neg e];by_cases e2:j<k
     ·rw[if_pos e2,if_pos Y1]
     ·rw[if_neg e2,if_neg Y1]
   case measure=>simp[intOf];omega
  ·obtain rfl:k=m+1:=Y1;have uO:Row m l w.heap.size 0 wr:=hrow.congr fun j hj=>by rw[if_pos hj];rfl
   clear hrow;go_wp2;go_loopw [40] (fun i wr=> ∃k:Nat,k≤n∧i=E Z k∧Row m l w.heap.size k wr∧Below w.heap.size w wr∧zbu m l W k) (fun i _=>n - (intOf i).toNat);case atStart=>exact ⟨0,by omega,rfl,uO,hb,fun j hj=>by omega⟩
   case round=>
    clear uO hb;obtain ⟨i,hi,rfl,hrow,hb,hg⟩:=hrel;have OE:w.heap.size<wr.heap.size:=hrow.lt;by_cases hlt:i<n
    ·obtain ⟨b,off,e,rfl,qM,he,c0,c1,c2⟩:=(h.below hb).at_ hlt;obtain ⟨kd,wh,dr⟩:=e;dsimp only at c0 c1 c2;have hat:=zsU (n:=m) he;have hL:i<l.length:=by rw[h.1];exact hlt
     have HH:=Y0 h;clear h;have HE:=Y0 he;clear he;have HR:=Y0 hrow;clear hrow;have HG:=Y0 hg;clear hg;by_cases hk1:kd=1∧0≤wh∧wh<m
     ·obtain ⟨rfl,hw0,qm⟩:=hk1;obtain ⟨u,rfl⟩:=Int.eq_ofNat_of_zero_le hw0;have TK:u<m:=Y1;rw[ziq m u dr TK] at hat;have DI:=HR.out.cell (i:=u) Y1;have hfu:=HR.out.frozen u;have hr:=bU m l u i;generalize hlast:lp m l u i=last at DI hr;have HL:=Y0 hlast;clear hlast;have HA:=Y0 hat;clear hat;by_cases hgap:(W:Int)<i - last
      ·go_wp2;go_ret;rw[gX (KL m l W u i Y1 Y1 Y94)];exact ⟨rfl,hb.alloc Y1 _⟩
      ·go_wp2;go_roundw;case rel=>
        refine ⟨i+1,by omega,by go_num,((HR.out.set u _).alloc _).congr ?_,(hb.setCell (p:=⟨w.heap.size,u,O⟩) (Nat.le_refl _) _).alloc Y8 _,zdm HG.out HA.out (by rw[HL.out];omega)⟩;intro j hj;rw[zjO HA.out];by_cases e:j=u
        ·rw[if_pos e,if_pos e]
        ·rw[if_neg e,if_neg e]
       case measure=>simp[intOf];omega
     ·by_cases hk2:kd=2
      ·subst hk2;rw[znB m wh dr] at hat;have DI:=HR.out.cell (i:=m) Y1;have hfu:=HR.out.frozen m;have hr:=bU m l m i;generalize hlast:lp m l m i=last at DI hr;have HL:=Y0 hlast;clear hlast;have HA:=Y0 hat;clear hat;clear hk1;by_cases hgap:(W:Int)<i - last
       ·go_wp2;go_ret;rw[gX (KL m l W m i Y1 Y1 Y94)];exact ⟨rfl,hb.alloc Y1 _⟩
       ·go_wp2;go_roundw;case rel=>
         refine ⟨i+1,by omega,by go_num,((HR.out.set m _).alloc _).congr ?_,(hb.setCell (p:=⟨w.heap.size,m,O⟩) (Nat.le_refl _) _).alloc Y8 _,zdm HG.out HA.out (by rw[HL.out];omega)⟩;intro j hj;rw[zjO HA.out];by_cases e:j=m
         ·rw[if_pos e,if_pos e]
         ·rw[if_neg e,if_neg e]
        case measure=>simp[intOf];omega
      ·rw[zpb m kd wh dr hk1 hk2] at hat;have HA:=Y0 hat;clear hat;have SL:(kd !=2)=true:=by simp[hk2]
       have dP:=Y0 hk2;clear hk2;by_cases hq1:kd=1
       ·subst hq1;by_cases hq2:0≤wh
        ·have hq3: ¬wh<m:=fun h=>hk1 ⟨rfl,hq2,h⟩;exact J59
        ·exact J59
       ·have TD:(kd==1)=false:=by simp[hq1]
        exact J59
    ·obtain rfl:i=n:=Y1;have HG:=Y0 hg;clear hg;have HH:=Y0 h;clear h;go_wp2;go_loopw [80] (fun x wr'=> ∃k:Nat,k≤m+1∧x=E Z k∧wr'=wr∧ ∀j,j<k→(i:Int) - lp m l j i≤W) (fun x _=>m+1 - (intOf x).toNat);case atStart=>exact ⟨0,by omega,rfl,rfl,fun j hj=>by omega⟩
     case round=>
      obtain ⟨k,hk,rfl,rfl,hall⟩:=hrel;have aS:=Y0 hall;clear hall;by_cases hlt2:k<m+1
      ·have DI:=World.rowIs.cell hrow (i:=k) hlt2;have HR:=Y0 hrow;clear hrow;have hr:=bU m l k i;generalize hlast:lp m l k i=last at DI hr;have HL:=Y0 hlast;clear hlast;by_cases hgap:(W:Int)<i - last
       ·go_wp2;go_ret;rw[gX (KL m l W k i Y1 (by rw[HH.out.1];omega) Y94)];exact ⟨rfl,hb⟩
       ·go_wp2;go_roundw;case rel=>
         refine ⟨k+1,by omega,by go_num,by first|rfl|trivial,fun j hj=>?_⟩;by_cases e:j=k
         ·subst e;rw[HL.out];omega
         ·exact aS.out j Y1
        case measure=>simp[intOf];omega
      ·obtain rfl:k=m+1:=Y1;clear hrow;go_wp2;go_ret;rw[zaX hW (zeo m l W (by rw[HH.out.1];exact HG.out) (fun j hj=>by rw[HH.out.1];exact aS.out j Y1))];exact ⟨rfl,hb⟩
theorem zmz {m:Nat} {l:List kS} {window:Int} (h:window<1):jL m l window=false:=by
 rw[←Bool.not_eq_true];intro hb;have:=((Ju _ _ _).1 hb).1;omega
theorem zqL (w:World) (wk:Int) (A:Option Addr) (n c:Nat) (window:Int) (l:List kS) (h:zaG w w.heap.size A n l) (hl:n≤100000)
  (hwk: -9223372036854775808≤wk∧wk≤9223372036854775807) (hwin: -9223372036854775808≤window∧window≤9223372036854775807):
  Calls Tp 30 #[E Z wk, .slice A n c,E Z window] w fun e w'=>e=Rt (.bool (jL wk.toNat l window))∧Below w.heap.size w w':=by
 by_cases h1:window<1
 ·rw[zmz h1];exact zus
 ·obtain ⟨W,rfl⟩:=Int.eq_ofNat_of_zero_le (show 0≤window by omega);have hlen:=h.1;have hmx:(if wk<0 then 0 else wk)=((wk.toNat:Nat):Int):=by split<;>omega
  by_cases h2:n<W
  ·rw[zaX Y1 (zit _ _ _ Y1)];clear hlen hmx;exact zus
  ·by_cases h3:W≤wk.toNat
   ·rw[gX (zcj _ _ _ h3 Y1)];have h4:(W:Int)≤wk:=Y1;have h5: ¬wk<0:=Y1;clear hlen hmx h3;exact zus
   ·exact zk0 w wk A n c wk.toNat W l hmx h hl Y1 Y1 Y1
theorem BH {w:World} {base base':Nat} {e e':TypeId} {size size':Nat} {v v':Value} {n n':Nat} {xs xs':List Value}
  (h:w.ownsRow base e size v n xs) (h':w.ownsRow base' e' size' v' n' xs') (hne:e≠e'):v.ownBlock=none∨v.ownBlock≠v'.ownBlock:=by
 exact J72
theorem zcF {w wr w1:World} {B:Nat} {e e':TypeId} {size size':Nat} {v v':Value} {n n':Nat} {xs xs':List Value} {o:Obj}
  (h:wr.ownsRow B e size v n xs) (h':wr.ownsRow B e' size' v' n' xs') (hne:e'≠e) (hb:Below B w wr) (hB:B≤wr.heap.size) (hg:(wr.alloc o).grownBy w1 v.ownBlock):
  w1.ownsRow B e' size' v' n' xs'∧Below B w w1:=by
 refine ⟨(h'.alloc o).kept hg (BH h' h hne),(hb.alloc hB o).grown hg Y8 fun k hk=>(h.lt k hk).1⟩
theorem zb1 {g:Nat} {t:TypeId}: ∀(vs:List Value) (o:Nat) (w:World) (cs:Array Value),w.heap[g]?=V (.cells cs t (0,0))→
  ∃cs',(w.setCells g o vs).heap[g]?=V (.cells cs' t (0,0))∧cs'.size=cs.size∧ ∀i,cs'[i]?=if o≤i∧i<o+vs.length∧i<cs.size then vs[i - o]? else cs[i]?:=by
 intro vs
 induction vs with
 |nil=>
  intro o w cs h
  exact ⟨cs,h,rfl,fun i=>by rw[if_neg Y8]⟩
 |cons v r ih=>
  intro o w cs h
  have h1:(w.setCell ⟨g,o,O⟩ v).heap[g]?=V (.cells (cs.setIfInBounds o v) t (0,0)):=by
   simp[World.setCell,Array.getElem?_modify,h]
  obtain ⟨cs',h2,h3,h4⟩:=ih (o+1) _ _ h1
  refine ⟨cs',h2,by rw[h3];simp,fun i=>?_⟩
  rw[h4 i]
  simp only[Array.size_setIfInBounds,List.length_cons,Array.getElem?_setIfInBounds]
  by_cases e:i=o
  ·subst e
   by_cases hs:i<cs.size
   ·rw[if_neg Y1,if_pos rfl,if_pos hs,if_pos Y1];simp
   ·rw[if_neg Y1,if_pos rfl,if_neg hs,if_neg Y1]
    rw[Array.getElem?_eq_none Y1]
  ·rw[if_neg (show¬o=i from fun h=>e h.symm)]
   by_cases hc:o+1≤i∧i<o+1+r.length∧i<cs.size
   ·rw[if_pos hc,if_pos Y1,show i - o=(i - (o+1))+1 by omega,List.getElem?_cons_succ]
   ·rw[if_neg hc,if_neg Y1]
theorem below_setCells {B:Nat} {a w:World} (h:Below B a w) {g:Nat} (hg:B≤g): ∀(vs:List Value) (o:Nat),Below B a (w.setCells g o vs):=by
 intro vs
 induction vs generalizing w with
 |nil=>intro o;exact h
 |cons v r ih=>intro o;exact ih (h.setCell (p:=⟨g,o,O⟩) hg v) (o+1)
theorem zbG {w:World} {g:Nat}: ∀(vs:List Value) (o:Nat),w.grownBy (w.setCells g o vs) (some g):=by
 intro vs o;refine ⟨World.os_setCells w g o vs,?_,World.output_setCells w g o vs,?_,?_⟩
 ·have h: ∀(vs:List Value) (o:Nat) (w:World),(w.setCells g o vs).tape=w.tape:=by
   intro vs
   induction vs with
   |nil=>intro o w;rfl
   |cons v r ih=>intro o w;exact ih (o+1) _
  exact h vs o w
 ·have h: ∀(vs:List Value) (o:Nat) (w:World),w.heap.size≤(w.setCells g o vs).heap.size:=by
   intro vs
   induction vs with
   |nil=>intro o w;exact Nat.le_refl _
   |cons v r ih=>intro o w;exact Nat.le_trans Y39 (ih (o+1) _)
  exact h vs o w
 ·intro i hi hne;exact World.heap_setCells_other w g o vs hi (fun e=>hne Y93)
theorem zja {w:World} {base:Nat} {e:TypeId} {g n cap i:Nat} {xs:List Value} (h:w.ownsRow base e 1 (Sl (V ⟨g,0,O⟩) n cap) n xs) (hi:i<n):
  (w.setCells g i (xs.drop (i+1))).ownsRow base e 1 (Sl (V ⟨g,0,O⟩) (n - 1) cap) (n - 1) (xs.eraseIdx i):=by
 have hl:xs.length=n:=by have:=h.1;omega
 refine ⟨by rw[List.length_eraseIdx_of_lt Y1];omega, .inr ?_⟩;rcases h.2 with ⟨h0,_⟩ |⟨g',cap',cur,hv,hb,hg,hn,hcap,hsz,ht⟩
 ·cases h0
 ·injection hv with hv1 hv2 hv3
  injection hv1 with hv1
  injection hv1 with hv1
  subst hv1 hv3;obtain ⟨cs',h2,h3,h4⟩:=zb1 (xs.drop (i+1)) i w cur hg;refine ⟨g,cap,cs',rfl,hb,h2,by omega,hcap,by rw[h3];exact hsz,?_⟩;have hx: ∀j,j<n→cur[j]?=xs[j]?:=by
   intro j hj;rw[←ht,List.getElem?_take_of_lt Y1];simp
  apply List.ext_getElem?;intro j;rw[List.getElem?_eraseIdx];by_cases hj:j<n - 1
  ·rw[List.getElem?_take_of_lt Y1,Array.getElem?_toList,h4 j];by_cases hij:j<i
   ·rw[if_neg Y1,if_pos hij,hx j Y1]
   ·rw[if_pos (by rw[List.length_drop];omega),if_neg hij,List.getElem?_drop];congr 1;omega
  ·rw[List.getElem?_eq_none (by rw[List.length_take];omega)];by_cases hij:j<i
   ·omega
   ·rw[if_neg hij,List.getElem?_eq_none Y1]
def zwU:Value→Nat
 | .slice _ n _=>n
 |_=>0
def vR (l:List kS):List Value:=l.flatMap fun e=> [E Z e.kind,E Z e.who,E J e.draw]
def VA (l:List Nat):List Value:=l.map fun (x:Nat)=>Value.int Z x
theorem zax (l:List kS) (e:kS):vR (l++ [e])=vR l++ [E Z e.kind,E Z e.who,E J e.draw]:=by simp[vR]
theorem zgl (l:List Nat) (x:Nat):VA (l++ [x])=VA l++ [E Z x]:=by simp[VA]
theorem zbQ (l:List kS): ∀(i:Nat) (e:kS),l[i]?=some e→(vR l)[i*3]?=V (E Z e.kind)∧(vR l)[i*3+1]?=V (E Z e.who)∧(vR l)[i*3+2]?=V (E J e.draw):=by
 induction l with
 |nil=>intro i e h;simp at h
 |cons x r ih=>
  intro i e h
  cases i with
  |zero=>simp at h;subst h;simp[vR]
  |succ i=>
   have:=ih i e Y17
   simp only[vR,List.flatMap_cons] at this ⊢
   rw[show (i+1)*3=(i*3)+3 by omega]
   exact this
theorem znV {w:World} {base:Nat} {v:Value} {l:List kS} (h:w.ownsRow base 39 3 v l.length (vR l)):
  ∃A c,v= .slice A l.length c∧zaG w w.heap.size A l.length l:=by
 rcases h.2 with ⟨rfl,h0⟩ |⟨g,cap,cur,rfl,hb,hg,hn,hcap,hsz,ht⟩
 ·exact ⟨none,0,by rw[h0],rfl,fun h=>by omega⟩
 ·refine ⟨_,_,rfl,rfl,fun _=>⟨g,0,rfl,lt_of_block hg,fun i e he=>?_⟩⟩;obtain ⟨h1,h2,h3⟩:=zbQ l i e he;have hc:=fun j u (hj:(vR l)[j]?=some u)=>h.cells (g:=g) rfl j u hj;simp only[Addr.add_lit] at hc;exact ⟨hc _ _ h1,by simpa[Nat.add_assoc] using hc _ _ h2,by simpa[Nat.add_assoc] using hc _ _ h3⟩
theorem zqt:(Tryz.prog.info? 39).map (fun i=>(i.zero,i.size,i.bytes))=V (some (.agg #[E Z 0,E Z 0,E J 0]),3,24):=Y4
def zqC (s:Int):Prop:=0≤s∧s<18446744073709551616
theorem zmD (s:Int):0≤lcg s∧lcg s<18446744073709551616:=by
 unfold lcg;rw[IntKind.wrap_u64];omega
theorem zs7 (s:Int) (F:Nat) (_h0:0≤s) (_h1:s<18446744073709551616): ∃(s2 d:Int) (p:Nat),IntKind.u64.wrap (IntKind.u64.wrap (s*6364136223846793005)+1442695040888963407)=s2∧
  s2/4294967296=d∧wrap64 (d% ((F:Int)+1))=(p:Int)∧wrap64 (d.tmod ((F:Int)+1))=(p:Int)∧p<F+1∧0≤d∧d<4294967296∧0≤s2∧s2<18446744073709551616∧Hid (s2=lcg s∧d=high s∧p=Gf (F+1) s):=by
 have hr:=zmD s;have hlt:=zbD F s;have hd0:0≤high s:=by unfold high;omega
 have hd1:high s<4294967296:=by unfold high;omega
 have hmod:high s% ((F:Int)+1)=(Gf (F+1) s:Int):=by
  unfold Gf;have:=Int.emod_nonneg (high s) (show ((F+1:Nat):Int)≠0 by omega);rw[Int.toNat_of_nonneg this];rfl
 have hw:wrap64 (high s% ((F:Int)+1))=(Gf (F+1) s:Int):=by
  rw[hmod];have:(Gf (F+1) s:Int)≤high s:=by
   obtain ⟨a,ha⟩:=Int.eq_ofNat_of_zero_le hd0;have e:((a:Int)% ((F:Int)+1))=((a% (F+1):Nat):Int):=by rw[Int.natCast_emod];rfl
   have:=Nat.mod_le a (F+1);rw[←hmod,ha,e];omega
  unfold wrap64;omega
 refine ⟨lcg s,high s,Gf (F+1) s,rfl,rfl,hw,?_,hlt,hd0,hd1,hr.1,hr.2,⟨rfl,rfl,rfl⟩⟩;rw[Int.tmod_eq_emod_of_nonneg hd0];exact hw
theorem left_at {left:List Nat} {F m p:Nat} (hF:F+1=left.length) (hm: ∀x∈left,x≤m) (hp:p<F+1): ∃x,(VA left)[p]?=V (E Z (x:Nat))∧x≤m∧left.getD p 0=x:=by
 have h:p<left.length:=Y1;refine ⟨left[p],?_,hm _ (List.getElem_mem h),?_⟩
 ·simp[VA,h]
 ·simp[List.getD,h]
theorem jD (w:World) (a b c:Value) (t:TypeId) (n:Nat) (hn:n=w.heap.size): ∀j u,[a,b,c][j]?=some u→(w.alloc (Ce #[a,b,c] t)).cell? ((⟨n,0,O⟩:Addr).add j)=some u:=by
 subst hn
 intro j u hj
 rw[Addr.add_lit,Nat.zero_add,World.cell?_alloc_at _ _ _ _ rfl]
 match j,hj with
 |0,hj=>exact hj
 |1,hj=>exact hj
 |2,hj=>exact hj
theorem zsn {w:World} {base:Nat} {e:TypeId} {g n cap i:Nat} {xs:List Value} (h:w.ownsRow base e 1 (Sl (V ⟨g,0,O⟩) n cap) n xs) (hi:i<n) (h1: ∀u∈xs,u.oneCell'=true):
  ∃A:Addr,(if cap=i+1 then some (⟨g,0,O⟩:Addr) else some ⟨g,i+1,O⟩)=some A∧Hid (∀j u,(xs.drop (i+1))[j]?=some u→w.drew.cell? (A.add j)=some u)∧
   Hid ((xs.drop (i+1)).length=(n - (i+1))*1)∧Hid (∀u∈xs.drop (i+1),u.oneCell'=true)∧
   Hid (∀j,j<(xs.drop (i+1)).length→(w.drew.cell? ⟨g,0+i*1+j,O⟩).isSome=true∧w.drew.frozen? ⟨g,0+i*1+j,O⟩=false)∧n≤cap∧cap≤9223372036854775807:=by
 have hl:xs.length=n:=by have:=h.1;omega
 obtain ⟨hcap,hcap2⟩:n≤cap∧cap≤maxLen:=by
  rcases h.2 with ⟨h0,_⟩ |⟨g',cap',cur,hv,hb,hg,hn,hcap,_⟩
  ·cases h0
  ·injection hv with _ _ hv3
   subst hv3;exact ⟨hn,hcap⟩
 have hc:=fun j u (hj:xs[j]?=some u)=>h.cells (g:=g) rfl j u hj;simp only[Addr.add_lit,Nat.zero_add] at hc;have s1:(xs.drop (i+1)).length=(n - (i+1))*1:=by rw[List.length_drop,hl];omega
 have s2: ∀u∈xs.drop (i+1),u.oneCell'=true:=fun u hu=>h1 u (List.mem_of_mem_drop hu);have s3: ∀j,j<(xs.drop (i+1)).length→(w.drew.cell? ⟨g,0+i*1+j,O⟩).isSome=true∧w.drew.frozen? ⟨g,0+i*1+j,O⟩=false:=by
  intro j hj;rw[s1] at hj;refine ⟨?_,h.frozenAt _⟩;show (w.cell? _).isSome=true;rw[show 0+i*1+j=i+j by omega,hc (i+j) _ (List.getElem?_eq_getElem Y1)];rfl
 unfold maxLen at hcap2;by_cases hq:cap=i+1
 ·refine ⟨⟨g,0,O⟩,by rw[if_pos hq],?_,s1,s2,s3,hcap,hcap2⟩;intro j u hu;have:=(List.getElem?_eq_some_iff.1 hu).1;omega
 ·refine ⟨⟨g,i+1,O⟩,by rw[if_neg hq],?_,s1,s2,s3,hcap,hcap2⟩;intro j u hu;rw[List.getElem?_drop] at hu;rw[Addr.add_lit];exact hc _ _ hu
theorem zn {w:World} {base:Nat} {e:TypeId} {size n:Nat} {v:Value} {xs:List Value} (h:w.ownsRow base e size v n xs): ∃A c,v= .slice A n c:=by
 exact zvi
theorem zqK {m x:Nat} {d:Int} (_h:x≤m) (h2: ¬x<m):ent m x d=⟨2,0,0⟩:=by
 unfold ent;rw[if_neg h2]
theorem ziM (l:List Nat): ∀u∈VA l,u.oneCell'=true:=by
 intro u hu;obtain ⟨x,_,rfl⟩:=List.mem_map.1 hu;rfl
theorem zeD (l:List Nat) (i:Nat):(VA l).eraseIdx i=VA (l.eraseIdx i):=by
 unfold VA;rw[List.eraseIdx_eq_take_drop_succ,List.eraseIdx_eq_take_drop_succ];simp
theorem zqq {m F:Nat} {l:List kS} {left:List Nat} {s s2 d:Int} {p x:Nat} {G:List kS×Int} (hF:F+1=left.length) (hG:goR m (F+1) l left s=G) (hs:s2=lcg s∧d=high s∧p=Gf (F+1) s) (hx:left.getD p 0=x) (hp:p<F+1):
  goR m (left.eraseIdx p).length (l++ [ent m x d]) (left.eraseIdx p) s2=G:=by
 rw[List.length_eraseIdx_of_lt Y1,←hF];obtain ⟨rfl,rfl,rfl⟩:=hs;rw[←hG,←hx];rfl
theorem zg8 (w:World) (m:Nat) (r:Int) (R:Nat) (s:Int) (hm1:1≤m) (hm:m≤64) (hR:(if 65536<r then 65536 else r)=(R:Int)) (hRb:R≤65536) (hs:zqC s):
  Calls Tp 10 #[E Z m,E Z r,E J s] w fun e w'=> ∃v,e= .returned v∧w'.ownsRow w.heap.size 39 3 v (kH m R [] s).length (vR (kH m R [] s))∧Below w.heap.size w w':=by
 obtain ⟨T,hT⟩: ∃T,T=kH m R [] s:=⟨_,rfl⟩;rw[←hT];have HT:=Y0 hT;clear hT;have qK:=hs.1;have uy:=hs.2;have hRy:min r 65536=(R:Int):=Y1;go_enter Tryz.func10,Tryz.ntmps10;go_wp2;clear hR hRy;obtain ⟨i3,hi3,hz3,hs3,hb3⟩:=info_parts info3;obtain ⟨i34,rW,sU,sK,iE⟩:=info_parts zqt;go_loopw [2,7,20] (fun sd lv iv wr=> ∃(k:Nat) (l:List kS) (s:Int),k≤R∧iv=E Z k∧sd=E J s∧zqC s∧wr.ownsRow w.heap.size 39 3 lv l.length (vR l)∧Below w.heap.size w wr∧l.length≤65*k∧Hid (T=kH m (R - k) l s)) (fun _ _ iv _=>R - (intOf iv).toNat);case atStart=>exact ⟨0,[],s,by omega,rfl,rfl,hs,World.ownsRow_nil _ _ _ _,Below.refl _ _,by simp,HT⟩
 case round=>
  obtain ⟨k,l,s',hk,rfl,rfl,⟨hs0,hs1⟩,hown,hb,hll,yS⟩:=hrel;clear HT qK uy hs;by_cases hlt:k<R
  ·go_wp2;go_loopw [8,24] (fun fv jv wf=> ∃q:Nat,q≤m+1∧jv=E Z q∧wf.ownsRow w.heap.size 3 1 fv q (VA (List.range q))∧wf.ownsRow w.heap.size 39 3 u7 l.length (vR l)∧Below w.heap.size w wf) (fun _ jv _=>m+1 - (intOf jv).toNat);case atStart=>exact ⟨0,by omega,rfl,World.ownsRow_nil _ _ _ _,hown,hb⟩
   case round=>
    clear hown hb;obtain ⟨q,hq,rfl,hrow,hown,hb⟩:=hrel;by_cases hlt2:q<m+1
    ·go_wp2_with (at_builtin;refine wpList_append_own _ rfl _ _ 76 rfl w.heap.size 3 i3 (E Z 0) 1 8 Tryz.underlying76 hi3 hz3 hs3 hb3 rfl Y2 _ _ _ rfl (hrow.alloc _) ⟨wr.heap.size,0,O⟩ 1 1 [E Z q] rfl rfl ?c1 ?c2 ?c3 ?c4 ?c5 ?_);case c1=>exact cell_one_new _ _ _
     case c2=>simp[Value.oneCell']
     case c3=>unfold maxLen;omega
     case c4=>omega
     case c5=>have:=hb.size;simp;omega
     ·intro v' w1 hrow' hgrow _;obtain ⟨hown',hb'⟩:=zcF hrow hown Y2 hb hb.size hgrow;clear hrow hown hb hgrow;go_wp2;go_roundw;case rel=>exact ⟨q+1,by omega,by go_num,by rw[List.range_succ,zgl];exact hrow',hown',hb'⟩
      case measure=>simp[intOf];omega
    ·obtain rfl:q=m+1:=Y1;go_wp2;have dO:=Y0 (rfl:goR m (m+1) l (List.range (m+1)) s'=goR m (m+1) l (List.range (m+1)) s');generalize hgo:goR m (m+1) l (List.range (m+1)) s'=G at dO;have G5:=Y0 hgo;clear hgo dO;go_loopw [2,7,8] (fun sd lv fv wf=> ∃(l:List kS) (left:List Nat) (s:Int),sd=E J s∧zqC s∧wf.ownsRow w.heap.size 3 1 fv left.length (VA left)∧wf.ownsRow w.heap.size 39 3 lv l.length (vR l)∧Below w.heap.size w wf∧l.length+left.length≤65*k+65∧(∀x∈left,x≤m)∧Hid (goR m left.length l left s=G)) (fun _ _ fv _=>zwU fv);case atStart=>exact ⟨l,List.range (m+1),s',rfl,⟨hs0,hs1⟩,by simpa using hrow,hown,hb,by simp;omega,fun x hx=>by have:=List.mem_range.1 hx;omega,by simpa using G5⟩
     case round=>
      clear hrow hown hb hs0 hs1;obtain ⟨l,left,s,rfl,⟨hs0,hs1⟩,hrow,hown,hb,hlb,hlm,HG⟩:=hrel;obtain ⟨F,hF⟩: ∃F,F=left.length:=⟨_,rfl⟩;rw[←hF] at hrow hlb HG;have HF:=Y0 hF;clear hF;have Hq:=Y0 hlm;clear hlm;by_cases h0:0<F
      ·obtain ⟨g,cap,rfl,hgB,hgl⟩:=hrow.form h0;obtain ⟨F',rfl⟩: ∃F',F=F'+1:=⟨F - 1,by omega⟩;obtain ⟨s2,d,p,hs2,hd,hp1,hp2,FB,hd0,hd1,MI,sI,HS⟩:=zs7 s F' hs0 hs1;have hmem:=(left_at HF.out Hq.out FB);obtain ⟨x,hx,hxm,hxe⟩:=hmem;have HX:=Y0 hxe;clear hxe;have hcl:=hrow.cells (g:=g) rfl p _ hx;rw[Addr.add_lit,Nat.zero_add] at hcl;have hfr:=hrow.frozenAt p;by_cases hxl:x<m
       ·clear yS;have hent:Hid (ent m x d=⟨1,x,d⟩):=if_pos hxl;go_wp2_with (at_builtin;refine wpList_append_own _ rfl (.tmp 59) (.tmp 61) 43 rfl w.heap.size 39 i34 _ 3 24 Tryz.underlying43 rW sU sK iE rfl Y2 _ _ _ rfl ((hown.alloc _).alloc _) ⟨wr.heap.size+1,0,O⟩ 1 1 [E Z (1),E Z (x),E J (d)] rfl rfl ?c11 ?c21 ?c31 ?c41 ?c51 ?_);case c11=>exact jD _ _ _ _ _ _ Y7
        case c21=>simp[Value.oneCell']
        case c31=>unfold maxLen;omega
        case c41=>omega
        case c51=>have:=hb.size;simp;omega
        exact J9
       ·clear yS;have hent:Hid (ent m x d=⟨2,0,0⟩):=zqK hxm hxl;go_wp2_with (at_builtin;refine wpList_append_own _ rfl (.tmp 59) (.tmp 61) 43 rfl w.heap.size 39 i34 _ 3 24 Tryz.underlying43 rW sU sK iE rfl Y2 _ _ _ rfl ((hown.alloc _).alloc _) ⟨wr.heap.size+1,0,O⟩ 1 1 [E Z (2),E Z (0),E J (0)] rfl rfl ?c12 ?c22 ?c32 ?c42 ?c52 ?_);case c12=>exact jD _ _ _ _ _ _ Y7
        case c22=>simp[Value.oneCell']
        case c32=>unfold maxLen;omega
        case c42=>omega
        case c52=>have:=hb.size;simp;omega
        exact J9
      ·obtain rfl:F=0:=Y1;obtain ⟨A,c,rfl⟩:=zn hrow;obtain rfl:left= []:=List.length_eq_zero_iff.1 HF.out.symm;have e:(l,s)=G:=HG.out;subst e;have e2:=yS.out;rw[show R - k=(R - (k+1))+1 by omega,kH,G5.out] at e2;have dO:=Y0 e2;clear e2 HG G5 yS HF Hq;go_wp2;go_roundw;case rel=>exact ⟨k+1,l,s,by omega,by go_num,rfl,⟨hs0,hs1⟩,hown,hb,by simp at hlb;omega,dO⟩
       case measure=>simp[intOf];omega
  ·obtain rfl:k=R:=Y1;have e2:=yS.out;rw[Nat.sub_self,kH] at e2;have dO:=Y0 e2;clear e2 yS;go_wp2;go_ret;refine ⟨_,rfl,?_,hb⟩;rw[dO.out];exact hown
def Gu (wk n s:Int):List kS:=if wk<1∨64<wk then [] else kH wk.toNat (min n 65536).toNat [] s
theorem za8 (w:World) (wk n s:Int) (hwk: -9223372036854775808≤wk∧wk≤9223372036854775807) (hn: -9223372036854775808≤n∧n≤9223372036854775807) (hs:zqC s):
  Calls Tp 10 #[E Z wk,E Z n,E J s] w fun e w'=> ∃v,e= .returned v∧w'.ownsRow w.heap.size 39 3 v (Gu wk n s).length (vR (Gu wk n s))∧Below w.heap.size w w':=by
 unfold Gu;by_cases h1:wk<1
 ·rw[if_pos (.inl h1)];exact zyF
 ·by_cases h2:64<wk
  ·rw[if_pos (.inr h2)];exact zyF
  ·rw[if_neg Y1];obtain ⟨m,rfl⟩:=Int.eq_ofNat_of_zero_le (show 0≤wk by omega);by_cases h3:n≤0
   ·rw[show (min n 65536).toNat=0 by omega,kH];go_enter Tryz.func10,Tryz.ntmps10;go_wp2;refine wp_loop_rounds 1 ?_;rw[rounds_succ];go_wp2;go_ret;exact ⟨_,rfl,World.ownsRow_nil _ _ _ _,Below.refl _ _⟩
   ·refine (zg8 w m n (min n 65536).toNat s Y1 Y1 (by split<;>omega) Y1 hs).mono fun e w' h=>?_;simpa using h
def exL:List kS:= [⟨1,0,2118330556⟩,⟨2,0,0⟩,⟨1,0,3893713506⟩,⟨2,0,0⟩]
theorem zkW:Gu 1 2 7=exL:=jE
theorem zsb:jL 1 exL 3=true:=jE
theorem znd:jL 2 exL 3=false:=jE
theorem zlb (w:World):Calls Tp 16 #[] w fun e w'=>e=Rt (.bool true)∧Below w.heap.size w w':=by
 have hr:=fun W=>za8 W 1 2 7 Y1 Y1 ⟨by omega,by omega⟩;rw[zkW] at hr;have HR:=Y0 hr;clear hr;go_enter Tryz.func16,Tryz.ntmps16;go_wp2_with fail;refine (HR.out _).mono ?_;rintro e w1 ⟨v,rfl,hown,hb⟩;obtain ⟨g,c,rfl,hgB,hgl⟩:=hown.form Y2;have hE:zaG w1 w1.heap.size (V ⟨g,0,O⟩) exL.length exL:=by
  obtain ⟨A,c',hv,h⟩:=znV hown;injection hv with hv
  subst hv;exact h
 have hc:=fun j u (h:(vR exL)[j]?=some u)=>hown.cells (g:=g) rfl j u h;simp only[Addr.add_lit,Nat.zero_add] at hc;have c0:=hc 0 _ rfl;have c3:=hc 3 _ rfl;have c6:=hc 6 _ rfl;have c9:=hc 9 _ rfl;clear hc;have C: ∀(W:World) (wk:Int),Below w1.heap.size w1 W→(wk=1∨wk=2)→
   Calls Tp 30 #[E Z wk,Sl (V ⟨g,0,O⟩) 4 c,E Z 3] W fun e w'=>e=Rt (.bool (wk==1))∧Below w1.heap.size w1 w':=by
  intro W wk hW hwk
  refine (zqL W wk _ 4 c 3 exL ((hE.below hW).more hW.size) Y1 Y1 Y1).mono fun e w' ⟨he,hw⟩=>⟨?_,hW.trans (hw.mono hW.size)⟩
  rcases hwk with rfl|rfl
  ·rw[he];exact congrArg (fun b=>Ending.returned (.bool b)) zsb
  ·rw[he];exact congrArg (fun b=>Ending.returned (.bool b)) znd
 have HC:=Y0 C;clear C;have HE:=Y0 hE;clear hE;have HO:=Y0 hown;clear hown;have hlen:exL.length=4:=rfl;rw[hlen];have hb1:=Below.refl w1.heap.size w1;have HB:=Y0 hb;clear hb;go_wp2_with fail;go_region_held3 (fun w'=>Below w1.heap.size w1 w'∧w'.cell? ⟨g,0,O⟩=V (E Z 1)∧w'.cell? ⟨g,3,O⟩=V (E Z 2)∧w'.cell? ⟨g,6,O⟩=V (E Z 1)∧w'.cell? ⟨g,9,O⟩=V (E Z 2)) (first|exact ⟨hb1,c0,c3,c6,c9⟩ |exact ⟨hb1.drew,c0,c3,c6,c9⟩ |go_keep)
  (first|(go_at_call 30;refine (HC.out _ _ ?_ ?_).mono ?_;(first|assumption|exact hb1.drew|exact hb1);(omega);rintro e w2 ⟨rfl,hb2⟩;have k0:=(hb2.cell (p:=⟨g,0,O⟩) hgl).trans c0;have k3:=(hb2.cell (p:=⟨g,3,O⟩) hgl).trans c3;have k6:=(hb2.cell (p:=⟨g,6,O⟩) hgl).trans c6;have k9:=(hb2.cell (p:=⟨g,9,O⟩) hgl).trans c9))
 go_wp2;go_ret;refine ⟨rfl,HB.out.trans (Below.mono (w:=w1) ?_ HB.out.size)⟩;assumption
end Fair
section
open Go.ChangeShapes Go.WideShapes Go.ChangeAt Go.RowKit Go.Deep
def zje (K:IntKind) (w:World) (A:Option Addr) (n:Nat) (zs:Nat→Int):Prop:=
 ∀i,i<n→ ∃b off,A=some ⟨b,off,O⟩∧b<w.heap.size∧w.cell? ⟨b,off+i,O⟩=V (.int K (zs i))∧(Lit.int K (zs i)).wf=true
theorem zje.below {K:IntKind} {w w':World} {A:Option Addr} {n:Nat} {zs:Nat→Int} (h:zje K w A n zs) (hb:Below w.heap.size w w'):zje K w' A n zs:=by
 intro i hi;obtain ⟨b,off,h1,h2,h3,h4⟩:=h i hi;exact ⟨b,off,h1,Nat.lt_of_lt_of_le h2 hb.size,(hb.cell (p:=⟨b,off+i,O⟩) h2).trans h3,h4⟩
section
variable {P:Program} {H:Type} {enc:TypeId×Value→H} {w:World}
theorem open_nums {T au:TypeId} {K:IntKind} (hT:P.underlying T=V (.slice au)) (hE:P.underlying au=V (.int K)) (hcE:P.cellsOf au=1) {b0:Nat} {v:Value} {d:DataW H} {p:List MemPlace}
  (hval:Value.okWide P w .any b0 T v) (h:DataW.Trod enc P w 0 (fun _=>true) true T v d p):
  ∃A n c,∃zs:Nat→Int,v= .slice A n c∧n≤9223372036854775807∧zje K w A n zs:=by
 obtain ⟨a0,yJ,cap0,rfl⟩:=okWide_slice hT hval;obtain ⟨fuel,hf⟩:=h;rcases open_ints hT hE hcE hf with ⟨hcs,_⟩ |⟨a,len,cap,zs,hcs,_,hl,hm,hz,hx,hcell,hwz⟩
 ·have e:Value.slice a0 yJ cap0=Sl none 0 0:=by simpa[Value.cells] using hcs
  cases e;refine ⟨none,0,0,fun _=>0,rfl,?_,?_⟩
  ·omega
  ·intro i hi;exact absurd hi (Nat.not_lt_zero i)
 ·obtain ⟨rfl,rfl,rfl⟩:a0=some a∧len=yJ∧cap=cap0:=by
   have e:Value.slice a0 yJ cap0=Sl (some a) len cap:=by simpa[Value.cells] using hcs
   injection e with e1 e2 e3
   exact ⟨e1,e2.symm,e3.symm⟩
  have hzl:len≤zs.length:=by first|omega|(rw[hz];split<;>omega) |(simp at hz;omega)
  refine ⟨some a,len,cap,fun i=>zs.getD i 0,rfl,by unfold maxLen at hm;omega,fun i hi=>?_⟩;have hp:0<zs.length:=Y1;obtain ⟨b,off,rfl,hc⟩:=ints_at hcell hp;have hb:b<w.heap.size:=by simpa using block_lt_of_cell (hc i Y1)
  exact ⟨b,off,rfl,hb,hc i Y1,hwz _ (by
   show zs.getD i 0∈zs
   rw[List.getD_eq_getElem?_getD,List.getElem?_eq_getElem Y1,Option.getD_some]
   exact List.getElem_mem _)⟩
end
end
section
open Go.ChangeShapes Go.WideShapes Go.ChangeAt Go.RowKit
theorem laidOut:laidOutB Tp=true:=Y4
section
variable {H:Type} {enc:TypeId×Value→H}
theorem stays {t:TypeId} (hr:Tryz.prog.readableRec t=true) (hrow:t<Tryz.prog.types.size) {W W':World} {sp:Nat→Bool} {v:Value} {d:DataW H} {ps:List MemPlace}
  (h:DataW.Trod enc Tp W 0 (fun _=>true) true t v d ps) (hb:Below W.heap.size W W') (hlt: ∀x∈ps,x.block<W.heap.size) (hs: ∀x∈ps,sp x.block=true):
  DataW.Trod enc Tp W' 0 sp true t v d ps:=
 WideElems.Trod_stays laidOut hr hrow h (fun x hx=>hb.same (hlt x hx)) hs
theorem post_of_below {P:Program} {f:Func} {s:ChangeSpec} {apart fresh handsOn again:Bool} {W W':World} {args:Array Value} {v:Value} {ds gs:List (DataW H)} {before pa pv:List MemPlace}
  (hW:DataW.Whole enc P f.params.toList s.vars apart W args.toList ds gs before)
  (hres: ∀(b:Nat) (sp:Nat→Bool) (hd:Bool),DataW.TrodAll enc P W' b sp hd f.resultTypes.toList (v.resultList f.resultTypes.size) (s.fn H (ds++gs)).results [])
  (hargs: ∀sp:Nat→Bool,(∀p∈before,sp p.block=true)→DataW.TrodAll enc P W' 0 sp true f.params.toList args.toList (s.fn H (ds++gs)).args pa)
  (hvars: ∀sp:Nat→Bool,(∀p∈before,sp p.block=true)→DataW.TrodVars enc P W' sp s.vars (s.fn H (ds++gs)).vars pv)
  (hps:before=pa++pv) (hb:Below W.heap.size W W')
  (hok: ∀(j:Nat) (t:TypeId) (r:Value),f.resultTypes[j]?=some t→(v.resultList f.resultTypes.size)[j]?=some r→Value.okWide P W' .any 0 t r):
  s.post enc P f apart fresh handsOn again W args v W':=by
 have hlt: ∀p∈before,p.block<W.heap.size:=fun p hp=>hW.lt p hp;have hold: ∀p∈before,(fun b=>decide (b<W.heap.size)) p.block=true:=fun p hp=>by simpa using hlt p hp
 refine ⟨ds,gs,before,[],pa,pv,hW,hres _ _ _,hargs _ hold,hvars _ hold,World.keptBut_mono (fun p hp=>⟨hp,?_⟩) (hb.frame (· ∈before)),fun _=>?_⟩
 ·rw[hps,List.mem_append] at hp;exact Or.inr hp
 ·obtain ⟨_,_,_,_,_,hz,hn⟩:=hW;refine ⟨hok,_,_,([]++pa)++pv,⟨[]++pa,pv,trodAll_append (hargs _ (fun _ _=>rfl)) (hres _ _ _),hvars _ (fun _ _=>rfl),rfl,?_,?_⟩,?_⟩
  ·intro b off hp;have hin:MemPlace.cell b off∈before:=by rw[hps];simpa using hp
   rw[hb.frozen (hlt _ hin)];exact hz b off hin
  ·intro ha;have:=hn ha;rw[hps] at this;simpa using this
  ·intro p hp _;rw[hps];simpa using hp
end
end
end Go.Proofs.YtdlpmnmenhojfaaGreatDoor
