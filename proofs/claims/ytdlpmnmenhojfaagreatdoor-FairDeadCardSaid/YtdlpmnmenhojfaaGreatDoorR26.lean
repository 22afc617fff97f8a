/- Part 26 of what the proof stands on: AsmB, KnCCl, KnCLib, LibLaid. -/
import Derived.Test.YtdlpmnmenhojfaaGreatDoorSplitLays
import Derived.Test.YtdlpmnmenhojfaaGreatDoorRows
import Derived.Test.YtdlpmnmenhojfaaGreatDoorR06
import Derived.Test.YtdlpmnmenhojfaaGreatDoorR23
import Derived.Test.YtdlpmnmenhojfaaGreatDoorR25
set_option linter.unusedVariables false
set_option maxHeartbeats 40000000
set_option maxRecDepth 100000
variable {zP:Prop}
namespace Go.Proofs.YtdlpmnmenhojfaaGreatDoor
open Go.IntKind renaming i64->Z,u64->J
open Go.Value renaming int->E,pointer->Y,slice->Sl
open Option renaming none->O,some->V
open Go.Obj renaming cells->Ce
open Go.Ending renaming returned->Rt
open Go.Proofs.Tryz renaming prog->Tp
namespace Asm
open Go.RowKit Go.Maps
theorem zdn {α:Type} {l:List α}:l.getLast?=l[l.length - 1]?:=by rw[List.getLast?_eq_getElem?]
theorem zoJ {w:World} {R mb rb:Nat} {vc vl vn vw:Value} {st st':St} (hR:Rd w R mb rb vc vl vn vw st) (hrb:rb≤w.heap.size) (s:ByteArray) (i:Nat) (hs:s.size≤1000) (hsemi: ∀c∈s.data.toList,c≠59) (h:zK st i s.data.toList=some st') (hcn:st.code.length≤90000) (hln:st.labels.length≤90000) (hli:st.lines.length≤90000) (hwl:st.wants.length≤90000):
  Calls Tp 77 #[Y (V ⟨R,0,O⟩), .string s,E Z i] w (GL w R mb rb vc vl vn vw st'):=by
 obtain ⟨hlen,hcnt⟩:=zcu s.data.toList;have hsz:s.data.toList.length≤1000:=by rw[zL];exact hs
 unfold zK at h;split at h
 ·cases h
 ·rename_i hl;cases h;have hw:ZN s.data.toList= []:=by
   unfold jZ at hl;split at hl
   ·assumption
   ·split at hl
    ·split at hl<;>cases hl
    exact J58
  refine (zk2 R s i w Y1 hsemi hw).mono ?_;rintro e w' ⟨rfl,hb⟩;exact ⟨rfl,vc,vl,vn,vw,hR.below hb,Keeps.zO hb,fun k hk=>Or.inl hk⟩
 ·rename_i t hl;split at h
  ·cases h
  rename_i hany;cases h;unfold jZ at hl;split at hl
  ·cases hl
  ·rename_i w0 ws hw;split at hl
   ·rename_i hc;split at hl
    ·rename_i hn
     cases hl
     obtain ⟨rfl,hc2⟩:=hc
     obtain ⟨a,b⟩:=hlen w0 (by rw[hw];exact List.mem_cons_self)
     refine zjj hR hrb s i Y1 hsemi hw ⟨a,by omega⟩ hc2 hn ?_ hln hli
     rw[zr9] at hany
     unfold zaF
     cases hx:st.labels.findIdx? (fun p=>p.1==w0.dropLast) with
     |none=>rfl
     |some j=>rw[hx] at hany;simp at hany
    ·cases hl
   exact J58
 ·rename_i x l hl;cases h;unfold jZ at hl;split at hl
  ·cases hl
  ·rename_i w0 ws hw;split at hl
   ·split at hl<;>cases hl
   ·rename_i hnl;split at hl
    ·cases hl
    ·rename_i hop;obtain ⟨a,b⟩:=hlen w0 (by rw[hw];exact List.mem_cons_self);have hcw:ws.length≤1000:=by rw[hw] at hcnt;simp at hcnt;omega
     have hws: ∀x∈ws,x.length≤100000:=fun x hx=>by
      have:=(hlen x (by rw[hw];exact List.mem_cons_of_mem _ hx)).2;omega
     dsimp only at hl;split at hl
     ·cases hl
     ·rename_i y lr ho;split at hl
      ·rename_i hlk;cases hl;exact zg0 hR hrb s i Y1 hsemi hw ⟨a,by omega⟩ hnl hop (Bn _ hop) Y1 hws ho (Or.inl ⟨hlk,rfl⟩) hcn hwl
      ·split at hl
       ·rename_i hlk
        obtain ⟨hlk,hbg⟩:=hlk
        obtain ⟨z,hz,e⟩:=Option.map_eq_some_iff.1 hl
        cases e
        refine zg0 hR hrb s i Y1 hsemi hw ⟨a,by omega⟩ hnl hop (Bn _ hop) Y1 hws ho (Or.inr ⟨hlk,?_⟩) hcn hwl
        have e1:ws.getLast?=ws[(Zk (KH w0)).length]?:=by
         rw[zdn];congr 1;omega
        rw[e1] at hbg hz
        cases hg:ws[(Zk (KH w0)).length]? with
        |none=>rw[hg] at hbg;cases hbg
        |some m=>
         rw[hg] at hbg hz
         cases m with
         |nil=>cases hbg
         |cons c r=>
          have:c=33:=Option.some.inj hbg;subst this;exact ⟨r,rfl,hz⟩
       ·cases hl
def kZ (w:World):Prop:= ∃m:Int,w.cell? ⟨1,0,O⟩=V (E Z m)
theorem zqZ {w:World} {p:Addr} {v:Value} (h:w.cell? p=some v):p.block<w.heap.size:=by
 exact zwW
theorem kZ.below {w w':World} (h:kZ w) {B:Nat} (hb:Below B w w') (hB:1<B):kZ w':=by
 obtain ⟨m,hm⟩:=h;exact ⟨m,(hb.cell (p:=⟨1,0,O⟩) hB).trans hm⟩
noncomputable def Bb:List ByteArray:=(ZM Zy).map fun l=>⟨l.toArray⟩
theorem zik:Bb.length=(ZM Zy).length:=by simp[Bb]
theorem zmy:Lib.splitB ⟨#[10]⟩ 0 (Lib.countB ⟨Zy.toArray⟩ ⟨#[10]⟩) ⟨Zy.toArray⟩=Bb∧Lib.countB ⟨Zy.toArray⟩ ⟨#[10]⟩+1=Bb.length:=by
 have h1:=Lib.splitB_data ⟨#[10]⟩ 0 (Lib.countB ⟨Zy.toArray⟩ ⟨#[10]⟩) ⟨Zy.toArray⟩;have h2:Lib.splitK ([10]:Str) 0 (Lib.countB ⟨Zy.toArray⟩ ⟨#[10]⟩) Zy=ZM Zy:=by
  rw[←zhm];unfold Lib.split;congr 1
 have h3:=Lib.splitB_all ⟨#[10]⟩ Y2 0 _ ⟨Zy.toArray⟩ rfl;have h4:(Lib.splitB ⟨#[10]⟩ 0 (Lib.countB ⟨Zy.toArray⟩ ⟨#[10]⟩) ⟨Zy.toArray⟩).map (·.data.toList)=ZM Zy:=h1.trans h2;have h5:Lib.splitB ⟨#[10]⟩ 0 (Lib.countB ⟨Zy.toArray⟩ ⟨#[10]⟩) ⟨Zy.toArray⟩=Bb:=by
  unfold Bb;rw[←h4,List.map_map];conv=>lhs;rw[←List.map_id (Lib.splitB _ _ _ _)]
  exact List.map_congr_left fun a _=>rfl
 refine ⟨h5,?_⟩;rw[←h5];exact h3.symm
theorem VO {α β:Type} {f:α→List β} {k:Nat} (hf: ∀a,(f a).length=k): ∀(l:List α) (i:Nat) (hi:i<l.length) (j:Nat),j<k→(l.flatMap f)[i*k+j]?=(f l[i])[j]?
 |[],i,hi,_,_=>absurd hi Y7
 |a::l,0,_,j,hj=>by
  rw[List.flatMap_cons,Nat.zero_mul,Nat.zero_add,List.getElem?_append_left Y89]
  rfl
 |a::l,i+1,hi,j,hj=>by
  rw[List.flatMap_cons,List.getElem?_append_right (by rw[hf];rw[Nat.succ_mul];omega),hf]
  rw[show (i+1)*k+j - k=i*k+j by rw[Nat.succ_mul];omega]
  exact VO hf l i Y59 j hj
theorem Jg {α β:Type} {f:α→List β} {k:Nat} (hf: ∀a,(f a).length=k): ∀(l:List α),(l.flatMap f).length=l.length*k
 |[]=>by simp
 |a::l=>by rw[List.flatMap_cons,List.length_append,hf,Jg hf l,List.length_cons,Nat.succ_mul];omega
theorem zda (l:List zx):(Ze l).length=l.length*7:=Jg (f:=ziW) (k:=7) (fun _=>rfl) l
theorem bC (p:Nat): ∀(l:List zx) (a:Nat),Ze (l.modify a fun x=>{ x with v:=p})=(Ze l).set (a*7+4) (E J (p:Int))
 |[],a=>by simp[Ze]
 |x::l,0=>by simp[Ze,ziW]
 |x::l,a+1=>by
  have ih:=bC p l a
  simp only[List.modify_succ_cons,Ze,List.flatMap_cons] at ih ⊢
  rw[ih]
  rw[show (a+1)*7+4=(ziW x).length+(a*7+4) by show _=7+_;omega]
  rw[List.set_append_right _ _ Y1]
  congr 2
  omega
theorem GZ {l:List (Str×Nat)} {i:Nat} (hi:i<l.length):(ZO l)[i*2]?=V (vD l[i].1)∧(ZO l)[i*2+1]?=V (E Z (l[i].2:Int)):=
 ⟨VO (k:=2) (fun _=>rfl) l i hi 0 Y1,VO (k:=2) (fun _=>rfl) l i hi 1 Y1⟩
theorem zlT {l:List (Nat×Nat×Str)} {i:Nat} (hi:i<l.length):(KJ l)[i*3]?=V (E Z (l[i].1:Int))∧(KJ l)[i*3+1]?=V (E Z (l[i].2.1:Int))∧(KJ l)[i*3+2]?=V (vD l[i].2.2):=
 ⟨VO (k:=3) (fun _=>rfl) l i hi 0 Y1,VO (k:=3) (fun _=>rfl) l i hi 1 Y1,VO (k:=3) (fun _=>rfl) l i hi 2 Y1⟩
theorem zk8 {s:Str} (h:ZC s=true):s.length≤16:=by
 unfold ZC at h;simp only[Bool.and_eq_true,decide_eq_true_eq] at h;exact h.1.1.1.2
def WOK (st:St):Prop:=(∀p∈st.wants,p.1<st.code.length)∧ ∀p∈st.labels,p.1.length≤16∧p.2≤st.code.length
theorem zfG {st st':St} {i:Nat} {s:Str} (h:zK st i s=some st') (hw:WOK st):WOK st':=by
 unfold zK at h;split at h
 ·cases h
 ·cases h;exact hw
 ·rename_i t hl;split at h
  ·cases h
  ·cases h;refine ⟨hw.1,fun p hp=>?_⟩;rcases List.mem_append.1 hp with hp|hp
   ·exact hw.2 p hp
   ·rw[List.mem_singleton] at hp;subst hp;refine ⟨?_,Nat.le_refl _⟩;unfold jZ at hl;split at hl
    ·cases hl
    ·split at hl
     ·split at hl
      ·rename_i hn;cases hl;exact zk8 hn
      ·cases hl
     exact J58
 ·cases h;refine ⟨fun p hp=>?_,fun p hp=>?_⟩
  ·rcases List.mem_append.1 hp with hp|hp
   ·have:=hw.1 p hp;simp;omega
   ·obtain ⟨t,_,rfl⟩:=List.mem_map.1 hp;simp
  ·have:=hw.2 p hp;exact ⟨this.1,by simp;omega⟩
theorem zg9 {l:List (Str×Nat)} {t:Str} {p:Nat} (h:kN l t=some p): ∃j,∃(hj:j<l.length),zaF l t=some j∧l[j].2=p∧l[j].1=t:=by
 unfold kN at h;obtain ⟨x,hx,rfl⟩:=Option.map_eq_some_iff.1 h;obtain ⟨h1,j,hj,e,h2⟩:=List.find?_eq_some_iff_getElem.1 hx;refine ⟨j,hj,?_,by rw[e],by rw[e];simpa using h1⟩;unfold zaF;rw[List.findIdx?_eq_some_iff_getElem];refine ⟨hj,by rw[e];exact h1,fun k hk=>?_⟩;have:=h2 k hk;simpa using this
def PTo (w:World) (L:List Str) (stF:St) (g R mb i:Nat) (wr:World):Prop:=
 ∃st vc vl vn vw,Ka st i (L.drop i)=some stF∧Rd wr R mb w.heap.size vc vl vn vw st∧Below w.heap.size w wr∧(∀k,GJ R mb vc vl vn vw k→w.heap.size≤k)∧ ¬GJ R mb vc vl vn vw g∧g<wr.heap.size∧WOK st∧st.code.length≤i∧st.labels.length≤i∧st.lines.length≤i∧st.wants.length≤3*i∧ ∀j (hj:j<L.length),wr.cell? ⟨g,j,O⟩=V (vD L[j])
theorem zow {w wr w':World} {L:List Str} {stF st st':St} {g R mb i:Nat} {vc vl vn vw:Value} {e:Ending} (hi:i<L.length) (h1:Ka st i (L.drop i)=some stF) (hst:zK st i L[i]=some st') (hb:Below w.heap.size w wr) (ho: ∀k,GJ R mb vc vl vn vw k→w.heap.size≤k) (hg: ¬GJ R mb vc vl vn vw g) (hgl:g<wr.heap.size) (hw:WOK st) (l1:st.code.length≤i) (l2:st.labels.length≤i) (l3:st.lines.length≤i) (l4:st.wants.length≤3*i) (hc: ∀j (hj:j<L.length),wr.cell? ⟨g,j,O⟩=V (vD L[j])) (h:GL wr R mb w.heap.size vc vl vn vw st' e w'):e=Rt .nilIface∧PTo w L stF g R mb (i+1) w':=by
 obtain ⟨he,mG,mH,mJ,aN,hr,hk,hn⟩:=h;obtain ⟨s1,s2,s3,s4⟩:=zgf hst;refine ⟨he,st',mG,mH,mJ,aN,?_,hr,?_,?_,?_,Nat.lt_of_lt_of_le hgl hk.size,zfG hst hw,by omega,by omega,by omega,by omega,?_⟩
 ·rw[List.drop_eq_getElem_cons hi,Ka,hst] at h1;exact h1
 ·exact Keeps.below hb hk hb.size ho
 ·intro k hk2;rcases hn k hk2 with h|h
  ·exact ho k h
  ·have:=hb.size;omega
 ·intro h;rcases hn g h with h|h
  ·exact hg h
  ·omega
 ·intro j hj;exact (hk.cell (p:=⟨g,j,O⟩) hgl hg).trans (hc j hj)
def QTo (w:World) (st:St) (codeF:List zx) (R mb:Nat) (vc vl vn vw:Value) (j:Nat) (wr:World):Prop:=
 ∃code,GR st.labels code (st.wants.drop j)=some codeF∧code.length=st.code.length∧Rd wr R mb w.heap.size vc vl vn vw { st with code:=code}∧Below w.heap.size w wr
theorem zpW {l:Str} (h:l∈ZM Zy):(∀c∈l,c≠59)∧l.length≤1000:=by
 have:=List.all_eq_true.1 zfF l h;rw[Bool.and_eq_true] at this;exact ⟨fun c hc=>by simpa using List.all_eq_true.1 this.1 c hc,by simpa using this.2⟩
theorem zm7 (j:Nat) (hj:j<(ZM Zy).length):(Bb.map Value.string)[j]?=V (vD (ZM Zy)[j]):=by
 unfold Bb;simp[hj,vD]
theorem Vw {w:World} {base:Nat} {e:TypeId} {size n:Nat} {v:Value} {xs:List Value} (h:w.ownsRow base e size v n xs) (h0:0<n):
  ∃g c,v=Sl (V ⟨g,0,O⟩) n c∧base≤g∧g<w.heap.size∧n≤c∧(∀k,k<n*size→w.cell? ⟨g,k,O⟩=xs[k]?)∧ ∀o,w.frozen? ⟨g,o,O⟩=false:=by
 exact zx0
theorem Rd.patch {w:World} {R mb rb g c:Nat} {vl vn vw:Value} {st:St} (h:Rd w R mb rb (Sl (V ⟨g,0,O⟩) st.code.length c) vl vn vw st) (a p:Nat):
  Rd (w.setCell ⟨g,a*7+4,O⟩ (E J (p:Int))) R mb rb (Sl (V ⟨g,0,O⟩) st.code.length c) vl vn vw { st with code:=st.code.modify a fun x=>{ x with v:=p}}:=by
 have tg:kP w g=111+2:=zI h.code rfl;have hb: ∀k,k≠g→(w.setCell ⟨g,a*7+4,O⟩ (E J (p:Int))).heap[k]?=w.heap[k]?:=fun k hk=>Below.heap_setCell _ _ _ _ hk;refine ⟨(hb R (zH h.vO tg Y2)).trans h.obj,?_,za h.labels fun k hk=>hb k (zH (zI h.labels hk) tg Y2),za h.lines fun k hk=>hb k (zH (zI h.lines hk) tg Y2),za h.wants fun k hk=>hb k (zH (zI h.wants hk) tg Y2),h.map.of_block (hb mb (zH h.zaH tg Y2))⟩;have:=(h.code.stored (a*7+4) (E J (p:Int))).1;rw[←bC] at this;simpa using this
theorem zbW {labels:List (Str×Nat)} {code codeF:List zx} {x:Nat×Nat×Str} {l:List (Nat×Nat×Str)} (h:GR labels code (x::l)=some codeF): ∃p,kN labels x.2.2=some p∧GR labels (code.modify x.1 fun y=>{ y with v:=p}) l=some codeF:=by
 obtain ⟨a,b,t⟩:=x;simp only[GR] at h;split at h
 ·cases h
 ·rename_i p hp;exact ⟨p,hp,h⟩
def zfe (w:World) (code:List zx) (labels:List (Str×Nat)) (e:Ending) (w':World):Prop:=
 ∃vc vl,e=Rt (.tuple #[vc,vl, .nilIface])∧w'.ownsRow w.heap.size 111 7 vc code.length (Ze code)∧w'.ownsRow w.heap.size 204 2 vl labels.length (ZO labels)∧Below w.heap.size w w'
theorem zl7 {T:ByteArray} {L:List Str} {LB:List ByteArray} (xJ:T.size≤65536) (hct:Lib.countB T ⟨#[10]⟩+1=L.length) (hsp:Lib.splitB ⟨#[10]⟩ 0 (Lib.countB T ⟨#[10]⟩) T=LB) (hLB: ∀j (hj:j<L.length),(LB.map Value.string)[j]?=V (vD L[j])) (hok: ∀l∈L,(∀c∈l,c≠59)∧l.length≤1000) (hLn:L.length≤3000)
  {code:List zx} {labels:List (Str×Nat)} (hp:Vt L=V (code,labels)) (w:World) (hM:kZ w):
  Calls Tp 34 #[.string T] w (zfe w code labels):=by
 unfold Vt at hp
 cases hs:Ka {} 0 L with
 |none=>rw[hs] at hp;cases hp
 |some stF=>
 rw[hs] at hp
 dsimp only at hp
 cases hq:GR stF.labels stF.code stF.wants with
 |none=>rw[hq] at hp;cases hp
 |some codeF=>
 rw[hq] at hp
 dsimp only at hp
 split at hp
 case isFalse=>cases hp
 rename_i hfin
 injection hp with hp
 injection hp with hp1 hp2
 subst hp1 hp2
 obtain ⟨mx,hmx⟩:=hM
 have Ee:=zqZ hmx
 obtain ⟨n,hn⟩: ∃n,n=L.length:=⟨_,rfl⟩
 have dV:(n:Int)≤3000:=Y1
 have wY:=Y0 (fun (W:World) (hc:W.cell? ⟨1,0,O⟩=V (E Z mx))=>(Any.strings_Split { SplitLays.n146 with} SplitLays.n146.i9 T ⟨#[10]⟩ mx W Y1 hc Y2))
 rw[hsp,hct,←hn] at wY
 have Nt:=Y0 hLB
 have Ck:=Y0 hok
 have HN:=Y0 hn
 have HS:=Y0 hs
 have HQ:=Y0 hq
 have HF:=Y0 hfin
 have Sq:(T.size:Int)≤65536:=Y1
 have Qv:=Y0 hmx
 have Hu:=Y0 Ee
 clear hs hq hfin hsp hct hn xJ hmx Ee hLB hok
 have hmm:=@run_makeMap Tp
 go_enter Tryz.func34,Tryz.ntmps34
 go_wp2_with fail
 refine (wY.out _ (((((Below.refl _ w).alloc (Nat.le_refl _) _).alloc Y7 _).cell (p:=⟨1,0,O⟩) Hu.out).trans Qv.out)).mono ?_
 rintro e w2 ⟨rfl,hw2⟩
 have H0:Hid (PTo w L stF (w.heap.size+1+1) (w.heap.size+1) w.heap.size 0 w2):=Y0 (by
  obtain ⟨W1,hW1⟩: ∃W1,W1=w.alloc (.map #[] 0):=⟨_,rfl⟩
  rw[←hW1] at hw2
  have hs1:W1.heap.size=w.heap.size+1:=by rw[hW1];simp
  have hm1:kD W1 w.heap.size (zaF []) 0:=by
   rw[hW1]
   exact ⟨_,0,World.ownsMap_made w Tp 9 (plainElem Tp 3),Nat.le_refl _,fun k=>⟨rfl,fun j hj=>by cases hj⟩⟩
  have hb1:Below w.heap.size w W1:=by rw[hW1];exact (Below.refl _ w).alloc (Nat.le_refl _) _
  obtain ⟨W2,hW2⟩: ∃W2,W2=W1.alloc (Ce #[Sl none 0 0,Sl none 0 0,Sl none 0 0, .map (some w.heap.size),Sl none 0 0] 199):=⟨_,rfl⟩
  rw[←hW2] at hw2
  have hs2:W2.heap.size=w.heap.size+1+1:=by rw[hW2];simp[hs1]
  have pK:Below W1.heap.size W1 W2:=by rw[hW2];exact (Below.refl _ W1).alloc (Nat.le_refl _) _
  have ho2:W2.heap[w.heap.size+1]?=V (.cells #[Sl none 0 0,Sl none 0 0,Sl none 0 0, .map (some w.heap.size),Sl none 0 0] 199 (0,0)):=by
   rw[←hs1,hW2]
   exact heap_alloc_new W1 _
  have aU:Below W2.heap.size W2 w2:=by rw[hw2];exact (Below.refl _ W2).alloc (Nat.le_refl _) _
  have hs3:w2.heap.size=w.heap.size+1+1+1:=by rw[hw2];simp[hs2]
  have hc3: ∀j (hj:j<L.length),w2.cell? ⟨w.heap.size+1+1,j,O⟩=V (vD L[j]):=by
   intro j hj
   rw[hw2]
   refine (World.cell?_alloc_at _ _ _ _ (by rw[hs2])).trans ?_
   simpa using Nt.out j hj
  clear hw2 hW1 hW2
  have Ei: ∀k,GJ (w.heap.size+1) w.heap.size (Sl none 0 0) (Sl none 0 0) (Sl none 0 0) (Sl none 0 0) k→k=w.heap.size+1∨k=w.heap.size:=by
   rintro k (h|h|h|h|h|h)
   ·exact Or.inl h
   ·exact Or.inr h
   all_goals cases h
  refine ⟨{},Sl none 0 0,Sl none 0 0,Sl none 0 0,Sl none 0 0,HS.out,⟨(aU.block _ Y1).trans ho2,World.ownsRow_nil _ _ _ _,World.ownsRow_nil _ _ _ _,World.ownsRow_nil _ _ _ _,World.ownsRow_nil _ _ _ _,(hm1.of_block (pK.block _ Y1)).of_block (aU.block _ Y1)⟩,(hb1.trans (pK.mono Y1)).trans (aU.mono Y1),?_,?_,Y1,⟨(fun p hp=>by cases hp),(fun p hp=>by cases hp)⟩,Nat.le_refl _,Nat.le_refl _,Nat.le_refl _,Nat.le_refl _,hc3⟩
  ·intro k hk
   rcases Ei k hk with h|h<;>omega
  ·intro h
   rcases Ei _ h with h|h<;>omega)
 clear hw2
 go_wp2_with fail
 generalize w.heap.size+1+1=g at H0 ⊢
 generalize w.heap.size+1=R at H0 ⊢
 generalize hmb:w.heap.size=mb at H0 ⊢
 clear hmb
 go_loopw [7,8,9,28] (fun _ _ _ cv wr=> ∃i:Nat,i≤n∧cv=E Z i∧Hid (PTo w L stF g R mb i wr)) (fun _ _ _ cv _=>n - (intOf cv).toNat)
 case atStart=>exact ⟨0,by omega,rfl,H0⟩
 case round=>
  obtain ⟨i,hi,rfl,HP⟩:=hrel
  have dH:(i:Int)≤(n:Int):=Y1
  by_cases hlt:i<n
  ·have aH:(i:Int)<(n:Int):=Y1
   have fC:i<L.length:=by rw[←HN.out];exact hlt
   obtain ⟨st,vc,vl,vn,vw,h1,h2,h3,h4,h5,h6,h7,l1,l2,l3,l4,h8⟩:=HP.out
   obtain ⟨st',hst⟩: ∃st',zK st i L[i]=some st':=by
    have e:=h1
    rw[List.drop_eq_getElem_cons fC,Ka] at e
    obtain ⟨st',e1,_⟩:=Option.bind_eq_some_iff.1 e
    exact ⟨st',e1⟩
   obtain ⟨S,hS⟩: ∃S:ByteArray,S=⟨(L[i]).toArray⟩:=⟨_,rfl⟩
   have fJ:S.data.toList=L[i]:=by rw[hS]
   obtain ⟨k1,k2⟩:=Ck.out L[i] (List.getElem_mem _)
   have hSz:S.size≤1000:=by rw[←zL,fJ];exact k2
   have c0:wr.cell? ⟨g,i,O⟩=V (.string S):=by rw[h8 i fC,hS];rfl
   have HC:=Y0 (zoJ (R:=R) (mb:=mb) (w:=wr) h2 h3.size S i hSz (by rw[fJ];exact k1) (by rw[fJ];exact hst) Y1 Y1 Y1 Y1)
   have cu:Hid (∀e w',GL wr R mb w.heap.size vc vl vn vw st' e w'→e=Rt .nilIface∧PTo w L stF g R mb (i+1) w'):=Y0 (fun e w' h=>zow fC h1 hst h3 h4 h5 h6 h7 l1 l2 l3 l4 h8 h)
   clear h1 h2 h3 h4 h5 h6 h7 l1 l2 l3 l4 h8 hst hS fJ k1 k2 fC HP
   go_wp2_with fail
   refine HC.out.mono ?_
   intro e w' hout
   obtain ⟨he,dO⟩:=cu.out e w' hout
   clear hout
   subst he
   have dG:=Y0 dO
   clear dO
   go_wp2
   go_roundw
   case rel=>exact ⟨i+1,by omega,by go_num,dG⟩
   case measure=>simp[intOf];omega
  ·obtain rfl:i=n:=Y1
   obtain ⟨st,vc,vl,vn,vw,h1,h2,h3,h4,h5,h6,h7,l1,l2,l3,l4,h8⟩:=HP.out
   obtain rfl:st=stF:=by
    rw[HN.out,List.drop_of_length_le (Nat.le_refl _)] at h1
    exact Option.some.inj h1
   obtain ⟨Aw,cw,rfl⟩:=zn h2.wants
   obtain ⟨Al,cl,rfl⟩:=zn h2.labels
   obtain ⟨Ac,cc,rfl⟩:=zn h2.code
   obtain ⟨r0,r1,r2,r3,r4,rf⟩:=h2.cell
   obtain ⟨m,hm⟩: ∃m,m=st.wants.length:=⟨_,rfl⟩
   have rX:(m:Int)≤9000:=Y1
   have HM:=Y0 hm
   have qH:=Y0 h7
   have hlc:st.code.length≤3000:=Y1
   have hll:st.labels.length≤3000:=Y1
   have Ih:Hid (QTo w st codeF R mb (.slice Ac st.code.length cc) (.slice Al st.labels.length cl) vn (.slice Aw st.wants.length cw) 0 wr):=Y0 ⟨st.code,HQ.out,rfl,h2,h3⟩
   have Qp:=Y0 h2.labels
   rw[←hm] at r4
   clear h1 h2 h3 h4 h5 h6 h7 l1 l2 l3 l4 h8 hm HP wY Nt Ck H0 HS
   go_wp2_with fail
   go_loopw [46] (fun cv wq=> ∃j:Nat,j≤m∧cv=E Z j∧Hid (QTo w st codeF R mb (.slice Ac st.code.length cc) (.slice Al st.labels.length cl) vn (.slice Aw st.wants.length cw) j wq)) (fun cv _=>m - (intOf cv).toNat)
   case atStart=>exact ⟨0,by omega,rfl,Ih⟩
   case round=>
    obtain ⟨j,hj,rfl,uf⟩:=hrel
    have Am:(j:Int)≤(m:Int):=Y1
    by_cases hlt2:j<m
    ·have DY:(j:Int)<(m:Int):=Y1
     have nG:j<st.wants.length:=by rw[←HM.out];exact hlt2
     obtain ⟨code,q1,q2,q3,q4⟩:=uf.out
     rw[List.drop_eq_getElem_cons nG] at q1
     obtain ⟨p,q5,q6⟩:=zbW q1
     have hwk:=qH.out.1 _ (List.getElem_mem nG)
     obtain ⟨y1,y2,y3⟩:=zlT nG
     obtain ⟨gw,Rh,ew,Rx,Ry,I9,uw,_⟩:=Vw q3.wants (by show 0<st.wants.length;omega)
     injection ew with ew1 ew2 ew3
     subst ew1
     subst ew3
     have c0:=(uw (j*3) Y35).trans y1
     have c1:=(uw (j*3+1) Y35).trans y2
     have c2:=(uw (j*3+2) Y35).trans y3
     have wO:Hid (∀wz:World,Rd wz R mb w.heap.size (.slice Ac st.code.length cc) (.slice Al st.labels.length cl) vn (Sl (V ⟨gw,0,O⟩) st.wants.length cw) { st with code:=code.modify st.wants[j].1 fun y=>{ y with v:=p}}→Below w.heap.size w wz→QTo w st codeF R mb (.slice Ac st.code.length cc) (.slice Al st.labels.length cl) vn (Sl (V ⟨gw,0,O⟩) st.wants.length cw) (j+1) wz):=Y0 (fun wz k1 k2=>⟨_,q6,by simpa using q2,k1,k2⟩)
     obtain ⟨x,hx,f1,f2,f3⟩:=zg9 q5
     have hwl:=qH.out.2 _ (List.getElem_mem hx)
     rw[f2] at hwl
     have rP:=q3.map
     generalize st.wants[j]=pj at c0 c1 c2 q5 wO hwk f1 f3
     obtain ⟨a,l,nm⟩:=pj
     dsimp only at c0 c1 c2 q5 wO hwk f1 f3
     obtain ⟨Tn,xI⟩: ∃Tn:ByteArray,Tn=⟨nm.toArray⟩:=⟨_,rfl⟩
     have fA:Tn.data.toList=nm:=by rw[xI]
     have c2':wr.cell? ⟨gw,j*3+2,O⟩=V (.string Tn):=by rw[c2,xI];rfl
     clear uw y1 y2 y3 q1 q6 I9
     obtain ⟨gl,cl',el,Oy,I8,Oz,rH,_⟩:=Vw q3.labels Y74
     injection el with el1 el2 el3
     subst el1
     subst el3
     obtain ⟨z1,z2⟩:=GZ hx
     have d1:=(rH (x*2+1) Y52).trans z2
     rw[f2] at d1
     obtain ⟨gc,cc',ec,I6,Fu,Rv,C9,I7⟩:=Vw q3.code (by show 0<code.length;omega)
     injection ec with ec1 ec2 ec3
     subst ec1
     subst ec3
     obtain ⟨old,hold⟩: ∃old,wr.cell? ⟨gc,a*7+4,O⟩=some old:=by
      have h1:a*7+4<code.length*7:=Y1
      have e:=C9 (a*7+4) h1
      have e2:a*7+4<(Ze code).length:=by rw[zda];exact h1
      exact ⟨_,e.trans (List.getElem?_eq_getElem e2)⟩
     obtain ⟨r0,r1,r2,r3,r4,rf⟩:=q3.cell
     have TB:p≤3000:=Y1
     have hnm:nm.length≤16:=by rw[←f3];exact hwl.1
     have hW0:(wr.alloc (Ce #[E Z (a:Int),E Z (l:Int), .string Tn] 203)).heap.size=wr.heap.size+1:=Y7
     have BW:Below wr.heap.size wr (wr.alloc (Ce #[E Z (a:Int),E Z (l:Int), .string Tn] 203)):=(Below.refl _ _).alloc (Nat.le_refl _) _
     have hlk: ∀nq,(Instr.lookup 196 (.map (some mb)) (.string Tn) true).run Tp ((wr.alloc (Ce #[E Z (a:Int),E Z (l:Int), .string Tn] 203)).drewN nq)= .ok (.tuple #[E Z (x:Int), .bool true]) ((wr.alloc (Ce #[E Z (a:Int),E Z (l:Int), .string Tn] 203)).drewN nq):=by
      intro nq
      obtain ⟨cv,h,h2⟩:=kD.look (w:=(wr.alloc (Ce #[E Z (a:Int),E Z (l:Int), .string Tn] 203)).drewN nq) (rP.of_block (BW.block mb rP.lt)) Tn (by rw[←zL,fA];unfold maxLen;omega)
      rw[fA,f1,Option.isSome_some] at h
      rw[h,h2 x (by rw[fA];exact f1)]
     have TN:(x:Int)<(st.labels.length:Int):=Y1
     have Ai:(a:Int)<(st.code.length:Int):=Y1
     have tZ:=Y0 q2
     have hRl:=q3.lt
     have Im:=Y0 q3
     have nS:=Y0 q4
     have dM:=Y0 BW
     have nZ:=Y0 rP
     clear xI fA f1 f2 f3 hnm hwl z1 z2 c2 hW0 BW rP q2 q3 q4 rH C9 uf q5 ew2 ec2 el2
     go_wp2_with fail
     go_quiet (fail)
     go_wp2_with fail
     have RN:Rd (((wr.alloc (Ce #[E Z (a:Int),E Z (l:Int), .string Tn] 203)).drewN nq).drew) R mb w.heap.size (Sl (V ⟨gc,0,O⟩) st.code.length cc) (Sl (V ⟨gl,0,O⟩) st.labels.length cl) vn (Sl (V ⟨gw,0,O⟩) st.wants.length cw) { st with code:=code}:=(Im.out.below dM.out).zk fun _ _=>rfl
     have BN:Below w.heap.size w (((wr.alloc (Ce #[E Z (a:Int),E Z (l:Int), .string Tn] 203)).drewN nq).drew):=⟨nS.out.os,nS.out.tape,nS.out.output,Nat.le_trans nS.out.size dM.out.size,fun k hk=>(dM.out.block k (Nat.lt_of_lt_of_le hk nS.out.size)).trans (nS.out.block k hk)⟩
     have sa:(((wr.alloc (Ce #[E Z (a:Int),E Z (l:Int), .string Tn] 203)).drewN nq).drew).cell? ⟨wr.heap.size,0,O⟩=V (E Z (a:Int)):=World.cell?_alloc_at _ _ _ _ rfl
     have sd:(((wr.alloc (Ce #[E Z (a:Int),E Z (l:Int), .string Tn] 203)).drewN nq).drew).cell? ⟨gl,x*2+1,O⟩=V (E Z (p:Int)):=(dM.out.cell (p:=⟨gl,x*2+1,O⟩) I8).trans d1
     have so:(((wr.alloc (Ce #[E Z (a:Int),E Z (l:Int), .string Tn] 203)).drewN nq).drew).cell? ⟨gc,a*7+4,O⟩=some old:=(dM.out.cell (p:=⟨gc,a*7+4,O⟩) Fu).trans hold
     have sf: ∀o,(((wr.alloc (Ce #[E Z (a:Int),E Z (l:Int), .string Tn] 203)).drewN nq).drew).frozen? ⟨gc,o,O⟩=false:=fun o=>(dM.out.frozen (p:=⟨gc,o,O⟩) Fu).trans (I7 o)
     obtain ⟨s0,s1,s2,s3,s4,Ez⟩:=RN.cell
     have DT:gc<(((wr.alloc (Ce #[E Z (a:Int),E Z (l:Int), .string Tn] 203)).drewN nq).drew).heap.size:=Nat.lt_of_lt_of_le Fu dM.out.size
     generalize (wr.alloc (Ce #[E Z (a:Int),E Z (l:Int), .string Tn] 203)).drewN nq=wn at RN BN sa sd so sf s0 s1 s2 s3 s4 Ez DT ⊢
     go_still_tail 17,Y4
     change wpList _ _ _ _ _ wn.drew
     generalize wn.drew=wz at RN BN sa sd so sf s0 s1 s2 s3 s4 Ez DT ⊢
     have lS:=tZ.out
     have RZ:Rd (wz.setCell ⟨gc,a*7+4,O⟩ (E J (p:Int))) R mb w.heap.size (Sl (V ⟨gc,0,O⟩) st.code.length cc) (Sl (V ⟨gl,0,O⟩) st.labels.length cl) vn (Sl (V ⟨gw,0,O⟩) st.wants.length cw) { st with code:=code.modify a fun y=>{ y with v:=p}}:=by
      have IY:Rd wz R mb w.heap.size (Sl (V ⟨gc,0,O⟩) code.length cc) (Sl (V ⟨gl,0,O⟩) st.labels.length cl) vn (Sl (V ⟨gw,0,O⟩) st.wants.length cw) { st with code:=code}:=by rw[lS];exact RN
      have:=Rd.patch (st:={ st with code:=code}) IY a p
      rw[lS] at this
      exact this
     have cu:=Y0 (wO.out _ RZ (BN.setCell (p:=⟨gc,a*7+4,O⟩) I6 _))
     clear RN BN RZ lS
     go_wp2_with fail
     go_roundw
     case rel=>exact ⟨j+1,by omega,by go_num,cu⟩
     case measure=>simp[intOf];omega
    ·obtain rfl:j=m:=Y1
     obtain ⟨code,q1,q2,q3,q4⟩:=uf.out
     obtain rfl:code=codeF:=by
      rw[HM.out,List.drop_of_length_le (Nat.le_refl _)] at q1
      exact Option.some.inj q1
     have hfl:(st.code.length:Int)≤2048:=by have:=HF.out.1;omega
     have aS:=Y0 HF.out.2
     have tZ:=Y0 q2
     obtain ⟨r0,r1,r2,r3,r4,rf⟩:=q3.cell
     have Ii:Hid (Rd wr R mb w.heap.size (.slice Ac st.code.length cc) (.slice Al st.labels.length cl) vn (.slice Aw st.wants.length cw) { st with code:=code}∧Below w.heap.size w wr):=Y0 ⟨q3,q4⟩
     clear uf q1 q2 q3 q4
     go_wp2_with fail
     go_loopw [97] (fun cv wz=> ∃k:Nat,k≤st.labels.length∧cv=E Z k∧Hid (Rd wz R mb w.heap.size (.slice Ac st.code.length cc) (.slice Al st.labels.length cl) vn (.slice Aw st.wants.length cw) { st with code:=code}∧Below w.heap.size w wz)) (fun cv _=>st.labels.length - (intOf cv).toNat)
     case atStart=>exact ⟨0,by omega,rfl,Ii⟩
     case round=>
      obtain ⟨k,hk,rfl,qF⟩:=hrel
      obtain ⟨q3,q4⟩:=qF.out
      have dL:(k:Int)≤(st.labels.length:Int):=Y1
      obtain ⟨r0,r1,r2,r3,r4,rf⟩:=q3.cell
      have hRl:=q3.lt
      by_cases hlt3:k<st.labels.length
      ·have D7:(k:Int)<(st.labels.length:Int):=Y1
       obtain ⟨gl,cl',el,Oy,I8,Oz,rH,_⟩:=Vw q3.labels Y74
       injection el with el1 el2 el3
       subst el1
       subst el3
       obtain ⟨z1,z2⟩:=GZ hlt3
       have d0:=(rH (k*2) Y52).trans z1
       have d1:=(rH (k*2+1) Y52).trans z2
       have hne:((st.labels[k].2:Int)==(st.code.length:Int))=false:=by
        rw[beq_eq_false_iff_ne]
        intro e
        have h:=List.all_eq_true.1 aS.out _ (List.getElem_mem hlt3)
        rw[tZ.out] at h
        have e2:st.labels[k].2=st.code.length:=Y1
        rw[e2] at h
        simp at h
       have hne2:(st.labels[k].2==st.code.length)=false:=by
        rw[beq_eq_false_iff_ne]
        intro e
        rw[e] at hne
        simp at hne
       have cu:Hid (∀nq,Rd ((wr.alloc (Ce #[vD st.labels[k].1,E Z (st.labels[k].2:Int)] 204)).drewN nq) R mb w.heap.size (.slice Ac st.code.length cc) (Sl (V ⟨gl,0,O⟩) st.labels.length cl) vn (.slice Aw st.wants.length cw) { st with code:=code}∧Below w.heap.size w ((wr.alloc (Ce #[vD st.labels[k].1,E Z (st.labels[k].2:Int)] 204)).drewN nq)):=Y0 (fun nq=>by
        have BW:Below wr.heap.size wr (wr.alloc (Ce #[vD st.labels[k].1,E Z (st.labels[k].2:Int)] 204)):=(Below.refl _ _).alloc (Nat.le_refl _) _
        exact ⟨(q3.below BW).zk fun _ _=>rfl,⟨q4.os,q4.tape,q4.output,Nat.le_trans q4.size BW.size,fun j hj=>(BW.block j (Nat.lt_of_lt_of_le hj q4.size)).trans (q4.block j hj)⟩⟩)
       generalize st.labels[k]=pk at d0 d1 hne hne2 cu
       obtain ⟨nm,at_⟩:=pk
       dsimp only at d0 d1 hne hne2 cu
       unfold vD at d0 cu
       clear q3 q4 qF z1 z2 rH el2
       go_wp2_with fail
       go_quiet (fail)
       go_wp2_with fail
       go_roundw
       case rel=>exact ⟨k+1,by omega,by go_num,Y0 (cu.out _)⟩
       case measure=>simp[intOf];omega
      ·obtain rfl:k=st.labels.length:=Y1
       clear q3 q4
       go_wp2_with fail
       go_quiet (fail)
       go_wp2_with fail
       go_ret3
       obtain ⟨q3,q4⟩:=qF.out
       have e1:=tZ.out
       refine ⟨_,_,rfl,?_,za q3.labels fun _ _=>rfl,⟨q4.os,q4.tape,q4.output,q4.size,q4.block⟩⟩
       have:=za (w':=wr.drewN nq) q3.code fun _ _=>rfl
       exact this
theorem ziA {code:List zx} {labels:List (Str×Nat)} (hp:Vt (ZM Zy)=V (code,labels)) (w:World) (hM:kZ w):
  Calls Tp 34 #[.string ⟨Zy.toArray⟩] w (zfe w code labels):=by
 obtain ⟨h1,h2⟩:=zmy;have hz:(⟨Zy.toArray⟩:ByteArray).size≤65536:=by
  have:(⟨Zy.toArray⟩:ByteArray).size=Zy.length:=by simp[ByteArray.size]
  rw[this,zoR];decide
 exact zl7 hz (h2.trans zik) h1 (fun j hj=>zm7 j hj) (fun l hl=>zpW hl) zlf hp w hM
end Asm
namespace Asm
open Go.RowKit
def za7 (w:World) (A:Option Addr) (l:List (Str×Nat)):Prop:=
 ∀i (hi:i<l.length),∃g,A=some ⟨g,0,O⟩∧g<w.heap.size∧w.cell? ⟨g,i*2,O⟩=V (vD l[i].1)∧w.cell? ⟨g,i*2+1,O⟩=V (E Z (l[i].2:Int))
theorem za7.below {w w':World} {A:Option Addr} {l:List (Str×Nat)} (h:za7 w A l) (hb:Below w.heap.size w w'):za7 w' A l:=by
 intro i hi;obtain ⟨g,h1,h2,h3,h4⟩:=h i hi;exact ⟨g,h1,Nat.lt_of_lt_of_le h2 hb.size,(hb.cell (p:=⟨g,_,O⟩) h2).trans h3,(hb.cell (p:=⟨g,_,O⟩) h2).trans h4⟩
def zgU (o:Option Nat):Value:= .tuple #[E Z ((o.getD 0:Nat):Int), .bool o.isSome]
theorem zef {l:List (Str×Nat)} {t:Str} {i:Nat} (hi:i<l.length) (h: ∀j (hj:j<l.length),j<i→l[j].1≠t) (he:l[i].1=t):kN l t=some l[i].2:=by
 unfold kN;have:l.find? (fun p=>p.1==t)=some l[i]:=by
  rw[List.find?_eq_some_iff_getElem];refine ⟨by simpa using he,i,hi,rfl,fun j hj=>?_⟩;have:=h j Y1 hj;simpa using this
 rw[this];rfl
theorem zeM {l:List (Str×Nat)} {t:Str} (h: ∀j (hj:j<l.length),l[j].1≠t):kN l t=none:=by
 unfold kN;rw[Option.map_eq_none_iff,List.find?_eq_none];intro x hx;obtain ⟨j,hj,rfl⟩:=List.getElem_of_mem hx;simpa using h j hj
theorem str_eq (a:Str) (s:ByteArray):(a==s.toList)=decide (a=s.data.toList):=by
 rw[ZF];rw[Bool.eq_iff_iff];simp
theorem a73.zv0 (h:zP:=by
 generalize l[i].2=p at c1 aP;generalize l[i].1=t at c0 aP hq he;clear he;unfold vD at c0 aP;go_wp2;go_roundw;case rel=>exact ⟨i+1,by omega,by go_num,lC,aP⟩
 case measure=>simp[intOf];omega):zP:=h
open a73 in
theorem zfn (A:Option Addr) (c:Nat) (l:List (Str×Nat)) (s:ByteArray) (w:World) (hA:za7 w A l) (hl:l.length≤100000):
  Calls Tp 36 #[.slice A l.length c, .string s] w fun e w'=>e=Rt (zgU (kN l s.data.toList))∧Below w.heap.size w w':=by
 have HA:=Y0 hA;obtain ⟨n,hn⟩: ∃n,n=l.length:=⟨_,rfl⟩;have dV:(n:Int)≤100000:=Y1;have HN:=Y0 hn;rw[←hn];clear hA hl hn;go_enter Tryz.func36,Tryz.ntmps36;go_wp2;go_loopw [10] (fun iv wr=> ∃i:Nat,i≤n∧iv=E Z i∧Hid (∀j (hj:j<l.length),j<i→l[j].1≠s.data.toList)∧Hid (Below w.heap.size w wr)) (fun iv _=>n - (intOf iv).toNat);case atStart=>exact ⟨0,by omega,rfl,Y0 (fun _ _ h=>by omega),Y0 (Below.refl _ _)⟩
 case round=>
  obtain ⟨i,hi,rfl,HX,HB⟩:=hrel;have dH:(i:Int)≤(n:Int):=Y1;by_cases hlt:i<n
  ·have aH:(i:Int)<(n:Int):=Y1;have hil:i<l.length:=by rw[←HN.out];exact hlt
   obtain ⟨g,hA,hg,c0,c1⟩:=(HA.out.below HB.out) i hil;subst hA;have aP:=Y0 (HB.out.alloc HB.out.size (.cells #[vD l[i].1,E Z (l[i].2:Int)] 204));by_cases he:l[i].1=s.data.toList
   ·have hq:=str_eq l[i].1 s;rw[decide_eq_true he] at hq;have HF:=Y0 (zef hil HX.out he);generalize l[i].2=p at c1 aP HF;generalize l[i].1=t at c0 aP hq he;clear he;unfold vD at c0 aP;go_wp2;go_ret2;exact ⟨by rw[HF.out];rfl,aP.out⟩
   ·exact zxy
  ·obtain rfl:i=n:=Y1;have HF:=Y0 (zeM (fun j hj=>HX.out j hj (by rw[HN.out];exact hj)));go_wp2;go_ret2;exact ⟨by rw[HF.out];rfl,HB.out⟩
theorem a74.zv0 (h:zP:=by
 generalize l[i].2=p at c1;generalize l[i].1=t at c0 hq he;clear he;unfold vD at c0;go_wp2;go_round;case rel=>exact ⟨i+1,by omega,by go_num,lC⟩
 case measure=>simp[intOf];omega):zP:=h
open a74 in
theorem zde (A:Option Addr) (c:Nat) (l:List (Str×Nat)) (s:ByteArray) (w:World) (hA:za7 w A l) (hl:l.length≤100000):
  Calls Tp 33 #[.slice A l.length c, .string s] w fun e w'=>e=Rt (zgU (kN l s.data.toList))∧w=w':=by
 have HA:=Y0 hA;obtain ⟨n,hn⟩: ∃n,n=l.length:=⟨_,rfl⟩;have dV:(n:Int)≤100000:=Y1;have HN:=Y0 hn;rw[←hn];clear hA hl hn;go_enter Tryz.func33,Tryz.ntmps33;go_wp2;go_loop [6] (fun iv=> ∃i:Nat,i≤n∧iv=E Z i∧Hid (∀j (hj:j<l.length),j<i→l[j].1≠s.data.toList)) (fun iv=>n - (intOf iv).toNat);case atStart=>exact ⟨0,by omega,rfl,Y0 (fun _ _ h=>by omega)⟩
 case round=>
  obtain ⟨i,hi,rfl,HX⟩:=hrel;have dH:(i:Int)≤(n:Int):=Y1;by_cases hlt:i<n
  ·have aH:(i:Int)<(n:Int):=Y1;have hil:i<l.length:=by rw[←HN.out];exact hlt
   obtain ⟨g,hA,hg,c0,c1⟩:=HA.out i hil;subst hA;by_cases he:l[i].1=s.data.toList
   ·have hq:=str_eq l[i].1 s;rw[decide_eq_true he] at hq;have HF:=Y0 (zef hil HX.out he);generalize l[i].2=p at c1 HF;generalize l[i].1=t at c0 hq he;clear he;unfold vD at c0;go_wp2;go_ret2;exact ⟨by rw[HF.out];rfl,rfl⟩
   ·exact zxy
  ·obtain rfl:i=n:=Y1;have HF:=Y0 (zeM (fun j hj=>HX.out j hj (by rw[HN.out];exact hj)));go_wp2;go_ret2;exact ⟨by rw[HF.out];rfl,rfl⟩
open Go.RowKit Go.Maps PosTab
def BI (labels:List (Str×Nat)) (r:Gn):Nat:=(kN labels r.routine.data.toList).getD 0
def zwX (labels:List (Str×Nat)) (r:Gn):List Value:= [E Z r.num,E Z (BI labels r:Int),E Z r.k0,E Z r.k1,E Z r.k2,E Z r.k3]
def Ji (labels:List (Str×Nat)) (l:List Gn):List Value:=l.flatMap (zwX labels)
def ZQ (labels:List (Str×Nat)):Nat:=(kN labels [108,111,111,112]).getD 0
theorem zgk {w:World} {base n c:Nat} {A:Option Addr} {l:List (Str×Nat)} (h:w.ownsRow base 204 2 (.slice A n c) l.length (ZO l)):za7 w A l:=by
 exact zwD
structure LTo (B BL tb:Nat) (vc vl:Value) (code:List zx) (labels:List (Str×Nat)) (k:Nat) (vr:Value) (wr:World):Prop where
 lib:wr.heap[BL]?=V (.cells #[vc,E Z (ZQ labels:Int),vr] 58 (0,0))
 res:wr.heap[B]?=V (.cells #[Sl none 0 0,E Z 0,Sl none 0 0] 58 (0,0))
 cod:wr.ownsRow (B+1) 111 7 vc code.length (Ze code)
 labs:wr.ownsRow (B+1) 204 2 vl labels.length (ZO labels)
 rows:wr.ownsRow (B+1) 125 6 vr k (Ji labels (tab.take k))
 tab:gZ wr tb
 lt:B<BL
section
variable {B BL tb k:Nat} {vc vl vr v':Value} {code:List zx} {labels:List (Str×Nat)} {wr w' w2:World}
theorem GY {w:World} {k:Nat} {o:Obj} (h:w.heap[k]?=some o):k<w.heap.size:=(Array.getElem?_eq_some_iff.1 h).1
theorem LTo.below (h:LTo B BL tb vc vl code labels k vr wr) (hb:Below wr.heap.size wr w'):LTo B BL tb vc vl code labels k vr w':=by
 obtain ⟨fr,ht⟩:=h.tab;exact ⟨(hb.block _ (GY h.lib)).trans h.lib,(hb.block _ (GY h.res)).trans h.res,za h.cod fun k hk=>hb.block k (h.cod.lt k hk).2,za h.labs fun k hk=>hb.block k (h.labs.lt k hk).2,za h.rows fun k hk=>hb.block k (h.rows.lt k hk).2,⟨fr,(hb.block _ (GY ht)).trans ht⟩,h.lt⟩
theorem LTo.append (h:LTo B BL tb vc vl code labels k vr wr) (hg:wr.grownBy w2 vr.ownBlock) (hr:w2.ownsRow (B+1) 125 6 v' (k+1) (Ji labels (PosTab.tab.take (k+1)))):LTo B BL tb vc vl code labels (k+1) v' (w2.setCell ⟨BL,2,O⟩ v'):=by
 obtain ⟨fr,ht⟩:=h.tab;have tL:kP wr BL=58+2:=Vj h.lib;have tR:kP wr B=58+2:=Vj h.res;have hL2:w2.heap[BL]?=wr.heap[BL]?:=hg.block BL (GY h.lib) (own_ne h.rows tL Y2);have hbl: ∀j,j<wr.heap.size→j≠BL→some j≠vr.ownBlock→(w2.setCell ⟨BL,2,O⟩ v').heap[j]?=wr.heap[j]?:=fun j hj h1 h2=>(Below.heap_setCell _ _ _ _ h1).trans (hg.block j hj h2)
 refine ⟨zy (hL2.trans h.lib) _,(hbl B (GY h.res) (by have:=h.lt;omega) (own_ne h.rows tR Y2)).trans h.res,za h.cod fun j hj=>hbl j (h.cod.lt j hj).2 (zH (zI h.cod hj) tL Y2) (own_ne h.rows (zI h.cod hj) Y2),za h.labs fun j hj=>hbl j (h.labs.lt j hj).2 (zH (zI h.labs hj) tL Y2) (own_ne h.rows (zI h.labs hj) Y2),za hr fun j hj=>Below.heap_setCell _ _ _ _ (zH (zI hr hj) ((zbi hL2).trans tL) Y2),⟨fr,(hbl tb (GY ht) (zH (Vj ht) tL Y2) (own_ne h.rows (Vj ht) Y2)).trans ht⟩,h.lt⟩
end
theorem zon:(Tryz.prog.info? 125).map (fun i=>(i.zero.map (·.cells.size),i.size,i.bytes))=V (some 6,6,48):=Y4
theorem zj6: ∃i z,Tryz.prog.info? 125=some i∧i.zero=some z∧i.size=6∧i.bytes=48∧z.cells.size=6:=by
 obtain ⟨i,hi,e⟩:=Option.map_eq_some_iff.1 zon;injection e with e1 e2
 injection e2 with e3 e4
 obtain ⟨z,hz,e5⟩:=Option.map_eq_some_iff.1 e1;exact ⟨i,z,hi,hz,e3,e4,e5⟩
theorem zeU {k:Nat} (hk:k<tab.length): ∀j,j<7→(tab.flatMap Gn.prog)[k*7+j]?=(tab[k]).prog[j]?:=fun j hj=>VO (k:=7) (f:=Gn.prog) (fun _=>rfl) tab k hk j hj
theorem gB {w:World} {tb:Nat} (h:gZ w tb) {k:Nat} (hk:k<tab.length) (j:Nat) (hj:j<7):w.cell? ⟨tb,k*7+j,O⟩=(tab[k]).prog[j]?:=by
 obtain ⟨fr,ht⟩:=h;rw[←zeU hk j hj];simp[World.cell?,ht]
def zuf (w:World) (code:List zx) (labels:List (Str×Nat)) (e:Ending) (w':World):Prop:=
 ∃vc vr,e=Rt (.tuple #[.agg #[vc,E Z (ZQ labels:Int),vr], .nilIface])∧w'.ownsRow w.heap.size 111 7 vc code.length (Ze code)∧w'.ownsRow w.heap.size 125 6 vr 45 (Ji labels tab)∧Below w.heap.size w w'
theorem zrK {code:List zx} {labels:List (Str×Nat)} (hp:Vt (ZM Zy)=V (code,labels)) (hlab:labels.length≤3000) (w:World) (hM:kZ w) (l8:1<w.heap.size):
  Calls Tp 18 #[] w (zuf w code labels):=by
 have B1:Below w.heap.size w (w.alloc (Ce #[Sl none 0 0,E Z 0,Sl none 0 0] 58)):=(Below.refl _ w).alloc (Nat.le_refl _) _;have HT:=Y0 (zoM (w.alloc (Ce #[Sl none 0 0,E Z 0,Sl none 0 0] 58)));have HP:=Y0 (ziA hp (w.alloc (Ce #[Sl none 0 0,E Z 0,Sl none 0 0] 58)) (hM.below B1 l8));have aL:=Y0 B1;generalize Zy=TT at HT HP hp;clear hp hM l8 B1;go_enter Tryz.func18,Tryz.ntmps18;go_wp2_with fail;refine HT.out.mono ?_;rintro e w' ⟨rfl,rfl⟩;go_wp2_with fail;refine HP.out.mono ?_;rintro e w2 ⟨vc,vl,rfl,hc,hl,hb⟩;have hcW:w2.ownsRow (w.heap.size+1) 111 7 vc code.length (Ze code):=by simpa using hc
 have Me:w2.ownsRow (w.heap.size+1) 204 2 vl labels.length (ZO labels):=by simpa using hl
 have hbW:Below (w.heap.size+1) (w.alloc (Ce #[Sl none 0 0,E Z 0,Sl none 0 0] 58)) w2:=by simpa using hb
 have hres2:w2.heap[w.heap.size]?=V (Ce #[Sl none 0 0,E Z 0,Sl none 0 0] 58 (0,0)):=(hbW.block _ Y1).trans (heap_alloc_new w _);obtain ⟨Al,cl,rfl⟩:=zn Me;obtain ⟨Ac,cc,rfl⟩:=zn hcW;have hs2:w.heap.size+1≤w2.heap.size:=by have:=hbW.size;simpa using this
 have dK:=Y0 hres2;have dD:=Y0 hcW;have wN:=Y0 Me;have aP:=Y0 (aL.out.trans (hbW.mono Y1));clear hc hl hb hcW Me hbW hres2;go_wp2_with fail;have HW:=Y0 (show Below w2.heap.size w2 (w2.alloc (Ce #[.slice Ac code.length cc,E Z 0,Sl none 0 0] 58)) from (Below.refl _ _).alloc (Nat.le_refl _) _);refine (zfn Al cl labels ⟨#[108,111,111,112]⟩ _ ((zgk wN.out).below HW.out) Y1).mono ?_;rintro e w3 ⟨rfl,hb3⟩;have rQ:Below (w2.heap.size+1) (w2.alloc (Ce #[.slice Ac code.length cc,E Z 0,Sl none 0 0] 58)) w3:=by simpa using hb3
 have iV:w3.heap[w2.heap.size]?=V (Ce #[.slice Ac code.length cc,E Z 0,Sl none 0 0] 58 (0,0)):=(rQ.block _ Y1).trans (heap_alloc_new w2 _);have aU:Below w2.heap.size w2 w3:=HW.out.trans (rQ.mono Y1);have hs3:w2.heap.size+1≤w3.heap.size:=by have:=rQ.size;simpa using this
 have y1:w3.cell? ⟨w2.heap.size,1,O⟩=V (E Z 0):=by simp[World.cell?,iV]
 have yf: ∀o,w3.frozen? ⟨w2.heap.size,o,O⟩=false:=fun o=>by simp[World.frozen?,iV]
 have Ql:=Y0 iV;have FN:=Y0 aU;have hfind:zgU (kN labels (⟨#[108,111,111,112]⟩:ByteArray).data.toList)= .tuple #[E Z (ZQ labels:Int), .bool (kN labels [108,111,111,112]).isSome]:=rfl;rw[hfind];generalize (kN labels [108,111,111,112]).isSome=fb;have uD:(w3.setCell ⟨w2.heap.size,1,O⟩ (E Z (ZQ labels:Int))).heap[w2.heap.size]?=V (Ce #[.slice Ac code.length cc,E Z (ZQ labels:Int),Sl none 0 0] 58 (0,0)):=zy iV _;have xA: ∀k,k<w2.heap.size→(w3.setCell ⟨w2.heap.size,1,O⟩ (E Z (ZQ labels:Int))).heap[k]?=w2.heap[k]?:=fun k hk=>(Below.heap_setCell _ _ _ _ (by show k≠w2.heap.size;omega)).trans (aU.block k hk);have OB:Below w2.heap.size w2 (w3.setCell ⟨w2.heap.size,1,O⟩ (E Z (ZQ labels:Int))):=aU.setCell (p:=⟨w2.heap.size,1,O⟩) (Nat.le_refl _) _
 have eZ:(w3.setCell ⟨w2.heap.size,1,O⟩ (E Z (ZQ labels:Int))).heap.size=w3.heap.size:=Y39;have H4:=Y0 uD;have EC:=Y0 xA;have MW:=Y0 OB;clear hb3 rQ aU uD xA OB hfind iV;go_wp2_with fail;refine (zdv _).mono ?_;rintro e w5 ⟨tb,rfl,ht1,ht2,htab,hb5⟩;have nu:Below w3.heap.size (w3.setCell ⟨w2.heap.size,1,O⟩ (E Z (ZQ labels:Int))) w5:=by rw[←eZ];exact hb5
 have L0:LTo w.heap.size w2.heap.size tb (.slice Ac code.length cc) (.slice Al labels.length cl) code labels 0 (Sl none 0 0) w5:=by
  refine ⟨(nu.block _ Y1).trans H4.out,((nu.block _ Y1).trans (EC.out _ Y1)).trans dK.out,za dD.out fun k hk=>(nu.block _ ?_).trans (EC.out _ (dD.out.lt k hk).2),za wN.out fun k hk=>(nu.block _ ?_).trans (EC.out _ (wN.out.lt k hk).2),World.ownsRow_nil _ _ _ _,htab,by omega⟩
  ·have:=(dD.out.lt k hk).2;omega
  ·have:=(wN.out.lt k hk).2;omega
 have H0:Hid (LTo w.heap.size w2.heap.size tb (.slice Ac code.length cc) (.slice Al labels.length cl) code labels 0 (Sl none 0 0) w5∧Below w.heap.size w w5):=Y0 ⟨L0,(aP.out.trans (MW.out.mono Y1)).trans (nu.mono Y1)⟩;have hBL:w.heap.size<w2.heap.size:=Y1;clear ht1 ht2 htab hb5 nu L0 y1 yf dK dD wN aP HW Ql FN H4 EC MW eZ HT HP aL hs2 hs3;generalize w2.heap.size=BL at H0 hBL ⊢;obtain ⟨i6,z6,LZ,yI,hs6,xZ,yt⟩:=zj6;go_wp2_with fail;go_loopw [31] (fun cv wr=> ∃(k:Nat) (vr:Value),k≤45∧cv=E Z k∧Hid (LTo w.heap.size BL tb (.slice Ac code.length cc) (.slice Al labels.length cl) code labels k vr wr∧Below w.heap.size w wr)) (fun cv _=>45 - (intOf cv).toNat);case atStart=>exact ⟨0,_,by omega,rfl,H0⟩
 case round=>
  obtain ⟨k,vr,hk,rfl,HL⟩:=hrel;obtain ⟨q1,q2⟩:=HL.out;have dL:(k:Int)≤45:=Y1;obtain ⟨Ar,cr,rfl⟩:=zn q1.rows;have RL:=GY q1.lib;by_cases hlt:k<45
  ·have D7:(k:Int)<45:=Y1;have hkt:k<tab.length:=by rw[jQ];exact hlt
   have c0:=gB q1.tab hkt 0 Y1;have c1:=gB q1.tab hkt 1 Y1;have c2:=gB q1.tab hkt 2 Y1;have c3:=gB q1.tab hkt 3 Y1;have c4:=gB q1.tab hkt 4 Y1;have c5:=gB q1.tab hkt 5 Y1;have c6:=gB q1.tab hkt 6 Y1;have aK:Hid (Ji labels (tab.take (k+1))=Ji labels (tab.take k)++zwX labels tab[k]):=Y0 (by
    unfold Ji
    rw[List.take_succ_eq_append_getElem hkt,List.flatMap_append]
    simp)
   generalize tab[k]=r at c0 c1 c2 c3 c4 c5 c6 aK;obtain ⟨num,name,dz,layer,k0,k1,k2,k3⟩:=r;replace c0:wr.cell? ⟨tb,k*7,O⟩=V (E Z num):=c0;replace c1:wr.cell? ⟨tb,k*7+1,O⟩=V (.string name):=c1;replace c2:wr.cell? ⟨tb,k*7+2,O⟩=V (.string dz):=c2;replace c3:wr.cell? ⟨tb,k*7+3,O⟩=V (E Z k0):=c3;replace c4:wr.cell? ⟨tb,k*7+4,O⟩=V (E Z k1):=c4;replace c5:wr.cell? ⟨tb,k*7+5,O⟩=V (E Z k2):=c5;replace c6:wr.cell? ⟨tb,k*7+6,O⟩=V (E Z k3):=c6;have fB:Below wr.heap.size wr (wr.alloc (Ce #[E Z num, .string name, .string dz,E Z k0,E Z k1,E Z k2,E Z k3] 123)):=(Below.refl _ _).alloc (Nat.le_refl _) _;have dh:=Y0 (zfn Al cl labels dz _ ((zgk q1.labs).below fB) Y1);have QU:=Y0 fB;clear q1 q2 fB;go_wp2_with fail;refine dh.out.mono ?_;rintro e w6 ⟨rfl,hb6⟩
   have rR:Below (wr.heap.size+1) (wr.alloc (Ce #[E Z num, .string name, .string dz,E Z k0,E Z k1,E Z k2,E Z k3] 123)) w6:=by simpa using hb6
   have sV:wr.heap.size+1≤w6.heap.size:=by have:=rR.size;simpa using this
   have xU:Below wr.heap.size wr w6:=QU.out.trans (rR.mono Y1);have hblk:w6.heap[wr.heap.size]?=V (Ce #[E Z num, .string name, .string dz,E Z k0,E Z k1,E Z k2,E Z k3] 123 (0,0)):=(rR.block _ Y1).trans (heap_alloc_new wr _);have hL6:=HL.out.1.below xU;have Le:Below w.heap.size w w6:=HL.out.2.trans (xU.mono HL.out.2.size);have e0:w6.cell? ⟨wr.heap.size,0,O⟩=V (E Z num):=by simp[World.cell?,hblk]
   have e3:w6.cell? ⟨wr.heap.size,3,O⟩=V (E Z k0):=by simp[World.cell?,hblk]
   have e4:w6.cell? ⟨wr.heap.size,4,O⟩=V (E Z k1):=by simp[World.cell?,hblk]
   have e5:w6.cell? ⟨wr.heap.size,5,O⟩=V (E Z k2):=by simp[World.cell?,hblk]
   have e6:w6.cell? ⟨wr.heap.size,6,O⟩=V (E Z k3):=by simp[World.cell?,hblk]
   have f2:w6.cell? ⟨BL,2,O⟩=V (.slice Ar k cr):=by simp[World.cell?,hL6.lib]
   have hfind:zgU (kN labels dz.data.toList)= .tuple #[E Z (BI labels ⟨num,name,dz,layer,k0,k1,k2,k3⟩:Int), .bool (kN labels dz.data.toList).isSome]:=rfl;rw[hfind];generalize (kN labels dz.data.toList).isSome=fb2;have hA:Below w6.heap.size w6 (w6.alloc (Ce #[E Z num,E Z (BI labels ⟨num,name,dz,layer,k0,k1,k2,k3⟩:Int),E Z k0,E Z k1,E Z k2,E Z k3] 125)):=(Below.refl _ _).alloc (Nat.le_refl _) _;have hL7:=hL6.below hA;have Lf:Below w.heap.size w (w6.alloc (Ce #[E Z num,E Z (BI labels ⟨num,name,dz,layer,k0,k1,k2,k3⟩:Int),E Z k0,E Z k1,E Z k2,E Z k3] 125)):=Le.trans (hA.mono Le.size);have E0:=Y0 hL7.rows
   have N1:Hid (∀j u,([E Z num,E Z (BI labels ⟨num,name,dz,layer,k0,k1,k2,k3⟩:Int),E Z k0,E Z k1,E Z k2,E Z k3]:List Value)[j]?=some u→((w6.alloc (Ce #[E Z num,E Z (BI labels ⟨num,name,dz,layer,k0,k1,k2,k3⟩:Int),E Z k0,E Z k1,E Z k2,E Z k3] 125))).cell? ((⟨w6.heap.size,0,O⟩:Addr).add j)=some u):=Y0 (by
    intro j u hu
    rw[Addr.add_lit,Nat.zero_add]
    exact (World.cell?_alloc_at _ _ _ _ rfl).trans Y23)
   have O1:Hid (∀u∈([E Z num,E Z (BI labels ⟨num,name,dz,layer,k0,k1,k2,k3⟩:Int),E Z k0,E Z k1,E Z k2,E Z k3]:List Value),u.oneCell'=true):=Y0 (by
    intro u hu
    simp at hu
    rcases hu with rfl|rfl|rfl|rfl|rfl|rfl<;>rfl)
   have M1:=Y0 (show k+1≤maxLen by unfold maxLen;omega);have M2:=Y0 (show (k+1)*48≤140737488355328 by omega);have M3:=Y0 (show w.heap.size+1≤((w6.alloc (Ce #[E Z num,E Z (BI labels ⟨num,name,dz,layer,k0,k1,k2,k3⟩:Int),E Z k0,E Z k1,E Z k2,E Z k3] 125))).heap.size by simp;omega)
   have aD:Hid (∀v' w8,w8.ownsRow (w.heap.size+1) 125 6 v' (k+1) (Ji labels (tab.take k)++ [E Z num,E Z (BI labels ⟨num,name,dz,layer,k0,k1,k2,k3⟩:Int),E Z k0,E Z k1,E Z k2,E Z k3])→((w6.alloc (Ce #[E Z num,E Z (BI labels ⟨num,name,dz,layer,k0,k1,k2,k3⟩:Int),E Z k0,E Z k1,E Z k2,E Z k3] 125))).grownBy w8 (Value.slice Ar k cr).ownBlock→(LTo w.heap.size BL tb (.slice Ac code.length cc) (.slice Al labels.length cl) code labels (k+1) v' (w8.setCell ⟨BL,2,O⟩ v')∧Below w.heap.size w (w8.setCell ⟨BL,2,O⟩ v'))∧w8.cell? ⟨BL,2,O⟩=V (.slice Ar k cr)∧w8.frozen? ⟨BL,2,O⟩=false):=Y0 (fun v' w8 hr hg=>by
    have hx:=(hg.block BL (GY hL7.lib) (own_ne hL7.rows (Vj hL7.lib) Y2)).trans hL7.lib
    refine ⟨⟨hL7.append hg (by rw[aK.out];exact hr),?_⟩,by simp[World.cell?,hx],by simp[World.frozen?,hx]⟩
    exact (Lf.grown hg Lf.size (fun j e=>by have:=(hL7.rows.lt j e).1;omega)).setCell (p:=⟨BL,2,O⟩) (by show w.heap.size≤BL;omega) _)
   clear hb6 rR xU hblk hL6 Le hfind hA hL7 Lf c0 c1 c2 c3 c4 c5 c6 HL;generalize BI labels ⟨num,name,dz,layer,k0,k1,k2,k3⟩=at9 at E0 N1 O1 M3 aD ⊢;go_wp2_with (at_builtin;refine wpList_append_own_at _ rfl _ _ 56 rfl (w.heap.size+1) 125 i6 z6 6 48 Tryz.underlying56 LZ yI hs6 xZ yt Y2 _ _ _ rfl E0.out ⟨w6.heap.size,0,O⟩ 1 1 [E Z num,E Z (at9:Int),E Z k0,E Z k1,E Z k2,E Z k3] rfl rfl N1.out O1.out M1.out M2.out M3.out ?_;intro v6 w8 hown hgrow _ hnew;obtain ⟨A6,c6,rfl⟩:=zn hown;obtain ⟨tt,t0,t2⟩:=aD.out _ _ hown hgrow;have HF:=Y0 tt;clear hown hgrow hnew tt);go_roundw;case rel=>exact ⟨k+1,_,by omega,by go_num,HF⟩
   case measure=>simp[intOf];omega
  ·obtain rfl:k=45:=Y1;have f0:wr.cell? ⟨BL,0,O⟩=V (.slice Ac code.length cc):=by simp[World.cell?,q1.lib]
   have f1:wr.cell? ⟨BL,1,O⟩=V (E Z (ZQ labels:Int)):=by simp[World.cell?,q1.lib]
   have f2:wr.cell? ⟨BL,2,O⟩=V (.slice Ar 45 cr):=by simp[World.cell?,q1.lib]
   have b0:wr.cell? ⟨w.heap.size,0,O⟩=V (Sl none 0 0):=by simp[World.cell?,q1.res]
   have b1:wr.cell? ⟨w.heap.size,1,O⟩=V (E Z 0):=by simp[World.cell?,q1.res]
   have b2:wr.cell? ⟨w.heap.size,2,O⟩=V (Sl none 0 0):=by simp[World.cell?,q1.res]
   have bf: ∀o,wr.frozen? ⟨w.heap.size,o,O⟩=false:=fun o=>by simp[World.frozen?,q1.res]
   have hBl:=GY q1.res;clear q1 q2;go_wp2_with fail;refine bodyPost_ret (v:= .tuple #[.agg #[.slice Ac code.length cc,E Z (ZQ labels:Int), .slice Ar 45 cr], .nilIface]) (by simp[results,Tryz.results18,go_sem,b0,b1,b2]) rfl ?_;obtain ⟨q1,q2⟩:=HL.out;have hne: ∀j,w.heap.size<j→ ∀(u0 u1 u2:Value),(((wr.setCell ⟨w.heap.size,0,O⟩ u0).setCell ⟨w.heap.size,1,O⟩ u1).setCell ⟨w.heap.size,2,O⟩ u2).heap[j]?=wr.heap[j]?:=fun j hj u0 u1 u2=>((Below.heap_setCell _ _ _ _ Y86).trans (Below.heap_setCell _ _ _ _ Y86)).trans (Below.heap_setCell _ _ _ _ Y86)
   refine ⟨_,_,rfl,Vx (b:=w.heap.size+1) (za q1.cod fun j hj=>hne j (q1.cod.lt j hj).1 _ _ _) (Nat.le_succ _),Vx (b:=w.heap.size+1) (za ?_ fun j hj=>hne j (q1.rows.lt j hj).1 _ _ _) (Nat.le_succ _),((q2.setCell (p:=⟨w.heap.size,0,O⟩) (Nat.le_refl _) _).setCell (p:=⟨w.heap.size,1,O⟩) (Nat.le_refl _) _).setCell (p:=⟨w.heap.size,2,O⟩) (Nat.le_refl _) _⟩;have:=q1.rows;rw[List.take_of_length_le (by rw[jQ];exact Nat.le_refl _)] at this;exact this
end Asm
namespace Kn
open Go.RowKit Asm
theorem zai {w:World} {g n c:Nat} {l:List zx} {lib:Bool} (h:vK w g l) (hg:g<w.heap.size) (hn:n=l.length) (hl:l.length≤2048) (hmay: ∀x∈l,vI x l.length lib=true):
  Calls Tp 89 #[Sl (V ⟨g,0,O⟩) n c, .bool lib] w fun e w'=>e=Rt .nilIface∧Below w.heap.size w w':=by
 have B1:Below w.heap.size w (w.alloc (Ce #[Y none] 94)):=(Below.refl _ _).alloc (Nat.le_refl _) _;have HC:=Y0 (zdy (c:=c) (h.below hg B1) (Nat.lt_of_lt_of_le hg B1.size) hn hl hmay);have aL:=Y0 B1;clear h hn hl hmay B1;go_enter Tryz.func89,Tryz.ntmps89;go_wp2_with fail;refine HC.out.mono ?_;rintro e w1 ⟨rfl,hb⟩;have HB:=Y0 (aL.out.trans (hb.mono Y7));clear hb;go_wp2_with fail;refine (Errs.zun _ _).mono ?_;rintro e w2 ⟨rfl,rfl⟩;go_wp2_with fail;go_ret;exact ⟨rfl,HB.out⟩
theorem zc6 (p n:Int) (w:World) (hp:0≤p∧p<n):Calls Tp 90 #[E Z p,E Z n] w fun e w'=>e=Rt .nilIface∧Below w.heap.size w w':=by
 go_enter Tryz.func90,Tryz.ntmps90;go_wp2_with fail;go_ret;exact ⟨rfl,Below.refl _ _⟩
theorem a75.zwE (h:zP:=by
 clear hb bz;go_wp2_with fail;refine (HP.out _).mono ?_;rintro e w2 ⟨rfl,hb2⟩;have aP:=Y0 (HB.out.trans (hb2.mono HB.out.size));clear hb2;go_wp2_with fail;go_ret;exact ⟨rfl,aP.out⟩):zP:=h
open a75 in
theorem ziS {w:World} {g n c:Nat} {l:List zx} {entry wide narrow:Int} (h:vK w g l) (hg:g<w.heap.size) (hn:n=l.length) (h0:0<l.length) (hl:l.length≤2048) (hmay: ∀x∈l,vI x l.length false=true) (he:0≤entry∧entry<l.length) (hw:0≤wide∧0≤narrow∧wide+narrow≤256):
  Calls Tp 40 #[.agg #[Sl (V ⟨g,0,O⟩) n c,E Z entry,E Z wide,E Z narrow]] w fun e w'=>e=Rt .nilIface∧Below w.heap.size w w':=by
 have B1:Below w.heap.size w (w.alloc (Ce #[Sl (V ⟨g,0,O⟩) n c,E Z entry,E Z wide,E Z narrow] 26)):=(Below.refl _ _).alloc (Nat.le_refl _) _;have HC:=Y0 (zai (c:=c) (h.below hg B1) (Nat.lt_of_lt_of_le hg B1.size) hn hl hmay);have hz:=heap_alloc_new w (.cells #[Sl (V ⟨g,0,O⟩) n c,E Z entry,E Z wide,E Z narrow] 26);have HZ:=Y0 hz;have aL:=Y0 B1;have dV:(0:Int)<(n:Int)∧(n:Int)≤2048:=Y1;have hsub:IntKind.i64.wrap (256 - wide)=256 - wide:=gT;have OY:0≤entry∧entry<(n:Int):=Y1;have HP:=Y0 (fun W=>zc6 entry (n:Int) W OY);clear h hn hl hmay B1 hz;have hbw:(256:Int) - wide<1000:=Y1;have f1:decide (wide<0)=false:=decide_eq_false Y1;have f2:decide (narrow<0)=false:=decide_eq_false Y1;have f3:decide (wide>256)=false:=decide_eq_false Y1;have f4:decide (narrow>256 - wide)=false:=decide_eq_false Y1
 have f5:((n:Int)==0)=false:=beq_eq_false_iff_ne.2 Y1;have g1: ¬wide<0:=Y1;have g2: ¬narrow<0:=Y1;have g3: ¬256<wide:=Y1;have g4: ¬256 - wide<narrow:=Y1;have g5: ¬(n:Int)=0:=Y1;clear hw hbw dV OY he;go_enter Tryz.func40,Tryz.ntmps40;exact zxv
def KM (w:World) (b:Nat) (D:List Int):Prop:= ∃C:Array Value,w.heap[b]?=V (.cells C 207 (0,0))∧C.size=1000∧ ∀j:Nat,j<1000→C[j]?=V (.bool (decide ((j:Int)∈D)))
theorem KM.cell {w:World} {b:Nat} {D:List Int} (h:KM w b D) {j:Nat} (hj:j<1000):w.cell? ⟨b,j,O⟩=V (.bool (decide ((j:Int)∈D)))∧w.frozen? ⟨b,j,O⟩=false∧b<w.heap.size:=by
 obtain ⟨C,h1,h2,h3⟩:=h;exact ⟨(ze h1 _).trans (h3 j hj),zF h1 _,zo h1⟩
theorem KM.set {w:World} {b:Nat} {D:List Int} (h:KM w b D) {n:Nat} (hn:n<1000):KM (w.setCell ⟨b,n,O⟩ (.bool true)) b (D++ [(n:Int)]):=by
 obtain ⟨C,h1,h2,h3⟩:=h;refine ⟨C.setIfInBounds n (.bool true),zy h1 _,by simp[h2],fun j hj=>?_⟩;rw[Array.getElem?_setIfInBounds];by_cases e:n=j
 ·subst e;rw[if_pos rfl,if_pos Y1];simp
 ·rw[if_neg e,h3 j hj];have e2: ¬(j:Int)=(n:Int):=Y1;simp[e2]
theorem KM.block {w w':World} {b:Nat} {D:List Int} (h:KM w b D) (e:w'.heap[b]?=w.heap[b]?):KM w' b D:=by
 obtain ⟨C,h1,h2,h3⟩:=h;exact ⟨C,e.trans h1,h2,h3⟩
theorem znt:Tryz.zeroCells207=(List.replicate 1000 (Value.bool false)).toArray:=Y4
theorem zyg {w:World} {SZ:Array Value} (hSZ:SZ=(List.replicate 1000 (Value.bool false)).toArray):KM (w.alloc (.cells SZ 207)) w.heap.size []:=by
 refine ⟨SZ,heap_alloc_new w _,by rw[hSZ,List.size_toArray,List.length_replicate],fun j hj=>?_⟩;rw[hSZ,List.getElem?_toArray,List.getElem?_replicate,if_pos hj];simp
theorem zoD {l:List kI} {i:Nat} (hi:i<l.length) (j:Nat) (hj:j<6):(ku l)[i*6+j]?=(bK l[i])[j]?:=gu (k:=6) (f:=bK) (fun _=>rfl) l i hi j hj
theorem a76.zwE (h:zP:=by
 have yX:=Y0 bz;clear hb bz;go_wp2_with fail;refine (HP.out _).mono ?_;rintro e w2 ⟨rfl,hb2⟩;have bz:=(hb2.block w.heap.size (zo yX.out)).trans yX.out;clear z0;have z2:w2.cell? ⟨w.heap.size,2,O⟩=V (.slice A m cr):=ze bz 2;have z0:w2.cell? ⟨w.heap.size,0,O⟩=V (Sl (V ⟨g,0,O⟩) n c):=ze bz 0;have hl2:w.heap.size<w2.heap.size:=zo bz;have aP:=Y0 (HB.out.trans (hb2.mono HB.out.size));have CK:=Y0 bz;clear hb2 z1 bz;go_wp2_with fail;have QF:Hid (KM (w2.alloc (.cells Tryz.zeroCells207 207)) w2.heap.size []):=Y0 (zyg znt);have aY:Hid (Below w2.heap.size w2 (w2.alloc (.cells Tryz.zeroCells207 207))):=Y0 ((Below.refl _ _).alloc (Nat.le_refl _) _);have Cy:=Y0 (za aK.out fun k hk=>aP.out.block k (aK.out.lt k hk).2)
 generalize w2.alloc (.cells Tryz.zeroCells207 207)=w3 at*;go_loopg [34] m (fun gg iv wr=> ∃(i:Nat),i≤m∧gg=m - i∧iv=E Z (i:Int)∧Hid (KM wr w2.heap.size ((calls.take i).map (·.num))∧Below w2.heap.size w2 wr));case atStart=>exact ⟨0,by omega,rfl,rfl,Y0 ⟨QF.out,aY.out⟩⟩
 case round=>
  obtain ⟨i,hi,hgg,rfl,HS⟩:=hrel;have Hg:=Y0 hgg;have dH:(0:Int)≤(i:Int)∧(i:Int)≤999:=Y1;by_cases hlt:i<m
  ·have aH:(i:Int)<(m:Int):=Y1;have hil:i<calls.length:=by rw[←HM.out];exact hlt
   have hmem:=List.getElem_mem hil;have hr:=PV.out _ hmem;have fC:i<(calls.map (·.num)).length:=by rw[List.length_map];exact hil
   have hgi:(calls.map (·.num))[i]=calls[i].num:=List.getElem_map _;have hnew:calls[i].num∉ (calls.take i).map (·.num):=fun hm=>by
    have hnd:=Cr.out;rw[←List.take_append_drop i (calls.map (·.num))] at hnd;rw[List.map_take] at hm;have:=(List.nodup_append.1 hnd).2.2 _ hm calls[i].num (by
     rw[List.drop_eq_getElem_cons fC,hgi]
     exact List.mem_cons_self)
    exact this rfl
   have hstep:(calls.take (i+1)).map (·.num)=(calls.take i).map (·.num)++ [calls[i].num]:=by
    rw[List.map_take,List.map_take,List.take_add_one,List.getElem?_eq_getElem fC,hgi];rfl
   clear fC hgi;have hel: ∃gr,A=some ⟨gr,0,O⟩∧gr<w2.heap.size∧ ∀j,j<6→wr.cell? ⟨gr,i*6+j,O⟩=(bK calls[i])[j]?:=by
    have hlt':=Cy.out;rcases gG hlt' with ⟨q,-⟩ |⟨gr,c',q,hq⟩
    ·injection q with _ q2 _
     omega
    ·injection q with q1 _ _
     refine ⟨gr,q1,(hlt'.lt gr (by rw[q1];rfl)).2,fun j hj=>?_⟩;have e:=zoD hil j hj;have hsome: ∃u,(bK calls[i])[j]?=some u:=⟨_,List.getElem?_eq_getElem (by show j<6;exact hj)⟩;obtain ⟨u,hu⟩:=hsome;have:=hq (i*6+j) u (e.trans hu);rw[Addr.add_lit,Nat.zero_add] at this;rw[hu,←this];exact HS.out.2.cell (p:=⟨gr,i*6+j,O⟩) (hlt'.lt gr (by rw[q1];rfl)).2
   obtain ⟨gr,rfl,hgr,hcl⟩:=hel;generalize calls[i]=x at*;obtain ⟨xn,xp,k0,k1,k2,k3⟩:=x;obtain ⟨r1,r2,r3,r4,⟨r5,r6⟩,⟨r7,r8⟩,⟨r9,Uo⟩,Uq,Ur⟩:=hr;simp only at r1 r2 r3 r4 r5 r6 r7 r8 r9 Uo Uq Ur hnew hstep;obtain ⟨lH,hxn⟩:=Int.eq_ofNat_of_zero_le (show 0≤xn by omega);subst hxn;have lT:lH<1000:=Y1;have c0:wr.cell? ⟨gr,i*6,O⟩=V (E Z (lH:Int)):=hcl 0 Y2;have c1:wr.cell? ⟨gr,i*6+1,O⟩=V (E Z xp):=hcl 1 Y2;have c2:wr.cell? ⟨gr,i*6+2,O⟩=V (E Z k0):=hcl 2 Y2;have c3:wr.cell? ⟨gr,i*6+3,O⟩=V (E Z k1):=hcl 3 Y2;have c4:wr.cell? ⟨gr,i*6+4,O⟩=V (E Z k2):=hcl 4 Y2;have c5:wr.cell? ⟨gr,i*6+5,O⟩=V (E Z k3):=hcl 5 Y2;obtain ⟨s1,s2,s3⟩:=HS.out.1.cell lT;rw[decide_eq_false hnew] at s1;have y0:wr.cell? ⟨w.heap.size,0,O⟩=V (Sl (V ⟨g,0,O⟩) n c):=(HS.out.2.cell (p:=⟨w.heap.size,0,O⟩) hl2).trans z0
   have TN:(1:Int)≤(lH:Int)∧(lH:Int)≤999:=Y1;have hls:w.heap.size<wr.heap.size:=Nat.lt_of_lt_of_le hl2 HS.out.2.size;have hlg:gr<wr.heap.size:=Nat.lt_of_lt_of_le hgr HS.out.2.size;have cO:=Y0 hstep;have fu:=Y0 hlt;have HX:=Y0 lT;clear hgg hlt hil hmem hnew hstep hcl hi lT z0 z2;go_wp2_with fail;have CF:Hid (KM ((wr.setCell ⟨w2.heap.size,lH,O⟩ (.bool true)).alloc (Ce #[E Z (lH:Int),E Z xp,E Z k0,E Z k1,E Z k2,E Z k3] 125)) w2.heap.size ((calls.take (i+1)).map (·.num))∧Below w2.heap.size w2 ((wr.setCell ⟨w2.heap.size,lH,O⟩ (.bool true)).alloc (Ce #[E Z (lH:Int),E Z xp,E Z k0,E Z k1,E Z k2,E Z k3] 125))):=Y0 (by
    have hb0:Below w2.heap.size w2 (wr.setCell ⟨w2.heap.size,lH,O⟩ (.bool true)):=HS.out.2.setCell (p:=⟨w2.heap.size,lH,O⟩) (Nat.le_refl _) _
    have hb1:Below (wr.setCell ⟨w2.heap.size,lH,O⟩ (.bool true)).heap.size (wr.setCell ⟨w2.heap.size,lH,O⟩ (.bool true)) ((wr.setCell ⟨w2.heap.size,lH,O⟩ (.bool true)).alloc (Ce #[E Z (lH:Int),E Z xp,E Z k0,E Z k1,E Z k2,E Z k3] 125)):=(Below.refl _ _).alloc (Nat.le_refl _) _
    refine ⟨?_,hb0.trans (hb1.mono hb0.size)⟩
    rw[cO.out]
    have hs:=HS.out.1.set HX.out
    exact hs.block (hb1.block _ (hs.cell (j:=0) Y2).2.2))
   generalize (wr.setCell ⟨w2.heap.size,lH,O⟩ (.bool true)).alloc (Ce #[E Z (lH:Int),E Z xp,E Z k0,E Z k1,E Z k2,E Z k3] 125)=w5 at*;go_loopg [74] 4 (fun g2 jv wr2=> ∃(j:Int),(0≤j∧j≤4)∧g2=(4 - j).toNat∧jv=E Z j∧w5=wr2);case atStart=>exact ⟨0,⟨by decide,by decide⟩,rfl,rfl,rfl⟩
   case round=>
    obtain ⟨j,hj,hg2,rfl,rfl⟩:=hrel;have ER:=Y0 hg2;clear hg2;obtain rfl|rfl|rfl|rfl|rfl:j=0∨j=1∨j=2∨j=3∨j=4:=Y1
    ·have hix: ∀(W:World),(Instr.index 121 (.agg #[E Z k0,E Z k1,E Z k2,E Z k3]) (E Z (0:Int))).run Tp W= .ok (E Z k0) W:=fun W=>by kernel_rfl
     go_wp2_with fail;go_roundg 3;case measure=>have:=ER.out;omega
     case rel=>exact ⟨1,⟨by decide,by decide⟩,rfl,by go_num,rfl⟩
    ·have hix: ∀(W:World),(Instr.index 121 (.agg #[E Z k0,E Z k1,E Z k2,E Z k3]) (E Z (1:Int))).run Tp W= .ok (E Z k1) W:=fun W=>by kernel_rfl
     go_wp2_with fail;go_roundg 2;case measure=>have:=ER.out;omega
     case rel=>exact ⟨2,⟨by decide,by decide⟩,rfl,by go_num,rfl⟩
    ·have hix: ∀(W:World),(Instr.index 121 (.agg #[E Z k0,E Z k1,E Z k2,E Z k3]) (E Z (2:Int))).run Tp W= .ok (E Z k2) W:=fun W=>by kernel_rfl
     go_wp2_with fail;go_roundg 1;case measure=>have:=ER.out;omega
     case rel=>exact ⟨3,⟨by decide,by decide⟩,rfl,by go_num,rfl⟩
    ·have hix: ∀(W:World),(Instr.index 121 (.agg #[E Z k0,E Z k1,E Z k2,E Z k3]) (E Z (3:Int))).run Tp W= .ok (E Z k3) W:=fun W=>by kernel_rfl
     go_wp2_with fail;go_roundg 0;case measure=>have:=ER.out;omega
     case rel=>exact ⟨4,⟨by decide,by decide⟩,rfl,by go_num,rfl⟩
    ·go_wp2_with fail;go_roundg (m - (i+1));case measure=>have:=Hg.out;have:=fu.out;omega
     case rel=>
      have:=fu.out;exact ⟨i+1,by omega,rfl,by go_num,CF⟩
  ·obtain rfl:i=m:=Y1;clear hgg;go_wp2_with fail;go_ret;exact ⟨rfl,aP.out.trans (HS.out.2.mono aP.out.size)⟩):zP:=h
open a76 in
theorem zrC {w:World} {g n c m cr b:Nat} {A:Option Addr} {l:List zx} {calls:List kI} {loop:Int} (h:vK w g l) (hg:g<w.heap.size) (hn:n=l.length) (h0:0<l.length) (hl:l.length≤2048) (hmay: ∀x∈l,vI x l.length true=true) (hlp:0≤loop∧loop<l.length) (hm:m=calls.length) (hm2:m≤999)
  (hrow:w.ownsRow b 125 6 (.slice A m cr) m (ku calls)) (dB:(calls.map (·.num)).Nodup) (hcalls: ∀r∈calls,1≤r.num∧r.num≤999∧0≤r.pos∧r.pos<l.length∧(0≤r.k0∧r.k0≤7)∧(0≤r.k1∧r.k1≤7)∧(0≤r.k2∧r.k2≤7)∧(0≤r.k3∧r.k3≤7)):
  Calls Tp 39 #[.agg #[Sl (V ⟨g,0,O⟩) n c,E Z loop, .slice A m cr]] w fun e w'=>e=Rt .nilIface∧Below w.heap.size w w':=by
 have B1:Below w.heap.size w (w.alloc (Ce #[Sl (V ⟨g,0,O⟩) n c,E Z loop, .slice A m cr] 58)):=(Below.refl _ _).alloc (Nat.le_refl _) _;have HC:=Y0 (zai (c:=c) (h.below hg B1) (Nat.lt_of_lt_of_le hg B1.size) hn hl hmay);have hz:=heap_alloc_new w (.cells #[Sl (V ⟨g,0,O⟩) n c,E Z loop, .slice A m cr] 58);have HZ:=Y0 hz;have aL:=Y0 B1;have dV:(0:Int)<(n:Int)∧(n:Int)≤2048:=Y1;have f5:((n:Int)==0)=false:=beq_eq_false_iff_ne.2 Y1;have g5: ¬(n:Int)=0:=Y1;have HP:=Y0 (fun W=>zc6 loop (n:Int) W Y1);have aK:=Y0 hrow;have Cr:=Y0 dB;have HM:=Y0 hm;have PV:Hid (∀r∈calls,1≤r.num∧r.num≤999∧0≤r.pos∧r.pos<n∧(0≤r.k0∧r.k0≤7)∧(0≤r.k1∧r.k1≤7)∧(0≤r.k2∧r.k2≤7)∧(0≤r.k3∧r.k3≤7)):=Y0 (by rw[hn];exact hcalls);have rX:(0:Int)≤(m:Int)∧(m:Int)≤999:=Y1;clear h hn hl hmay B1 hz h0 hlp hm hm2 hrow dB hcalls
 go_enter Tryz.func39,Tryz.ntmps39;exact zxv
end Kn
namespace Errs
open Go.ChangeShapes Go.WideShapes Go.RowKit
def laidL:List (String×DataW Unit):= [("unicode/utf8.acceptRanges",Rows.laid_unicode_utf8_acceptRanges),("errors.errorType",Rows.laid_errors_errorType),("unicode/utf8.first",Rows.laid_unicode_utf8_first)]
theorem et:Tryz.prog.globalNamed "errors.errorType" =some 0:=Y4
theorem rt:(Tryz.prog.cutTypes.find? (·.1== "internal/reflectlite.rtype")).map (·.2)=some 267:=Y4
theorem zvh:((List.range 465).filter fun t=>Tryz.prog.rowNamed t [101,114,114,111,114])= [30]:=Y4
theorem zmE:Tryz.prog.types.size=465:=Y4
theorem zgn:(laidL.filter fun x=>x.2.handleName?.isSome)= [("errors.errorType",Rows.laid_errors_errorType)]:=Y4
theorem zjw {P:Program} {l:List (String×DataW Unit)} {W:World} (h:laidMetH P l W) {fl:List (String×DataW Unit)} (e:(l.filter fun x=>x.2.handleName?.isSome)=fl) (hne:fl≠ []):handlesMet P fl W:=by
 unfold laidMetH at h
 rw[e] at h
 cases fl with
 |nil=>exact absurd rfl hne
 |cons x fl=>exact h.2
theorem door_of_laid {W:World} (h:laidMetH Tp laidL W):zay W:=by
 have h':=zjw h zgn Y7;obtain ⟨name,u,ty,e1,e2,e3,e4,e5⟩:=h' _ (List.mem_singleton.2 rfl);have en:name= [101,114,114,111,114]:=(Option.some.inj e1).symm;subst en;obtain rfl:=Option.some.inj (rt.symm.trans e2);have hm:ty∈(List.range 465).filter fun t=>Tryz.prog.rowNamed t [101,114,114,111,114]:=List.mem_filter.2 ⟨List.mem_range.2 (by rw[←zmE];exact e3),e4⟩;rw[zvh] at hm;obtain rfl:=List.mem_singleton.1 hm;have hh:typeHandle Tp 30=Y (V ⟨4,30,O⟩):=Y4;rw[hh] at e5;unfold zay;simpa using World.var?_cell et e5 0
theorem maxDoor_of {W:World} (h:W.ShapedOpen Tp):Asm.kZ W:=
 cell_of_shapedOpen_int (P:=Tp) (g:=1) (t:=3) (zero:=#[E Z 0]) h (of_decide_eq_true Y4) Y4 rfl Y4 Y4 Tryz.underlying3
theorem maxDoor_lt {W:World} (h:Asm.kZ W):1<W.heap.size:=by
 obtain ⟨m,hm⟩:=h;rcases Nat.lt_or_ge 1 W.heap.size with h'|h'
 ·exact h'
 ·have:W.heap[1]?=none:=Array.getElem?_eq_none h';simp[World.cell?,this] at hm
def cellL:DataW Unit→List Value
 | .lit (.int k n)=> [.int k n]
 |_=> []
def zpZ:DataW Unit→List Value
 | .agg l=>l.flatMap cellL
 |_=> []
def zq9:DataW Unit→List Value
 | .agg l=>l.flatMap zpZ
 |_=> []
noncomputable def laidWorld (os:Os):World:=
 let w0:=World.holding Tp os ⟨#[],#[],[]⟩
 { w0 with heap:=((w0.heap.modify 0 fun
   | .cells _ t frozen=> .cells #[.iface 267 (.agg #[Y (V ⟨4,30,O⟩)])] t frozen
   |o=>o).modify 2 fun
   | .cells _ t frozen=> .cells (zpZ Rows.laid_unicode_utf8_first).toArray t frozen
   |o=>o).modify 3 fun
   | .cells _ t frozen=> .cells (zq9 Rows.laid_unicode_utf8_acceptRanges).toArray t frozen
   |o=>o}
theorem laidWorld_met (os:Os) (args:Array Value):laidMetH Tp laidL ((laidWorld os).forCall (fun _ _=>0) ⟨#[],args,[]⟩).memory:=
 laidMetH_of_parts (laidMet_of_run' 1000 Y4 Y4) Y4
theorem returnsInHanded_and_shaped {H:Type} {enc:TypeId×Value→H} {a:Assume} {C:Checked} {os:Os} {f:FuncId} {fn:Func} {s:ChangeSpec} {conds:List PathCond} {apart fresh handsOn again:Bool} {X:World→Array Value→Prop}
  (hX: ∀(w w':World) (args:Array Value),w.heap=w'.heap→X w args→X w' args)
  (own:ownKnob C.prog.godebug=none) (started:os.Started) (noInit:C.prog.inits.idxOf? f=none) (hfn:C.prog.funcs[f]?=some fn)
  (witness: ∃(w:World) (tape:Tape) (i:Input),w.os=os∧(w.forCall tape i).Shaped C.prog∧i.vars= []∧Input.okWide C.prog (w.forCall tape i) .any w.heap.size f i∧
   ((s.pre enc C.prog fn conds apart (w.forCall tape i).memory i.args∧X (w.forCall tape i).memory i.args)∧sizedMet enc C.prog fn (OpenSpec.ofChange s) apart (w.forCall tape i).memory i.args)∧a.holds C.prog (lone (Frame.enter C.prog f i.args .normal) [] (w.forCall tape i)))
  (contract: ∀(W:World) (base:Nat) (args:Array Value) (ds gs:List (DataW H)) (before:List MemPlace),
   (∀(j:Nat) t v,fn.params[j]?=some t→args[j]?=some v→Value.okWide C.prog W .any base t v)→
   DataW.Whole enc C.prog fn.params.toList s.vars apart W args.toList ds gs before→
   conds.all (PathCond.test C.prog ⟨fn.params.toList,ds,s.plain.varTypes C.prog,gs⟩)=true→
   (DataW.weightsEach C.prog (fn.params.toList++s.plain.varTypes C.prog) (ds++gs)).all (· ≤reachBytes)=true→X W args→W.ShapedOpen C.prog→
   a.holds C.prog (lone (Frame.enter C.prog f args .normal) [] W)→
   Calls C.prog f args W fun e W'=> ∃v,e= .returned v∧s.post enc C.prog fn apart fresh handsOn again W args v W'):
  ReturnsInHanded a C os f .any (fun w args=>(s.pre enc C.prog fn conds apart w args∧X w args)∧sizedMet enc C.prog fn (OpenSpec.ofChange s) apart w args) (s.post enc C.prog fn apart fresh handsOn again):=by
 refine returnsInHanded_of_calls own started noInit witness ?_;intro w tape i _ hsh _ hok hpre hholds;obtain ⟨_,_,_,fn',hfn',_,_,_,_,hval⟩:=hok;have e:fn'=fn:=Option.some.inj (hfn'.symm.trans hfn);subst e;obtain ⟨⟨⟨ds,gs,before,hw,hc⟩,hx⟩,hz⟩:=hpre;have hw':=DataW.Whole.of_heap (w':=w.forCall tape i) (by rfl) hw;refine (contract (w.forCall tape i) w.heap.size i.args ds gs before hval hw' hc (hz.weights hw) (hX _ _ _ (by rfl) hx) hsh hholds).mono fun e W' ⟨v,he,hp⟩=>?_;subst he;exact ChangeSpec.post_blind hp
end Errs
end Go.Proofs.YtdlpmnmenhojfaaGreatDoor
