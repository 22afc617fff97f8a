/- Part 16 of what the proof stands on: KnReg, KnOthers, KnGood, KnThings, KnGoodB, KnNewK, KnNewL, KnHandy, LibAwk, PosKinds. -/
import Derived.StillTailTactics
import Derived.Deep.LoopGhost
import Derived.Test.YtaangaogmnlljaaGreatDoorP05
import Derived.Test.YtaangaogmnlljaaGreatDoorP09
import Derived.Test.YtaangaogmnlljaaGreatDoorP13
import Derived.Test.YtaangaogmnlljaaGreatDoorP15
set_option linter.unusedVariables false
namespace Go.Proofs.YtaangaogmnlljaaGreatDoor.Kn
open Go.RowKit Asm
theorem zeroThr (w:World):(zeroValue 278).run Tryz.prog w= .ok (.pointer none) w:=by kernel_rfl
section
variable {F:Fixed} {w:World} {own:Own} {G:KG} {M:Mach} {n:Nat}
theorem Fr1.out {i:Nat} {t:Option Int} {b o:Nat} {ty:TypeId} {P S:List Value} {tb tk:Tag} {bv:Value} (hf:Fr1 F w own G M n i t b o ty P S tb tk bv) (hM:PMem w own G.X M.mem) {f':Frame} {w':World} {n':Nat} (hn:n≤n') (h:FrOut w own b o ty P S tb tk n' f' w'):KO F w own G (setF M i t f') n' w':=by
 obtain ⟨own2,bv2,h1,h2⟩:=h
 refine ⟨own2,hf.back _ _ _ _ bv2 M.mem hn (h2.mono fun _ e=>e.elim Or.inl fun e=>Or.inr (Or.inl e)) h1 ?_,h2.mono ?_⟩
 ·exact hM.move h2 fun e=>e.elim (fun e=>hf.ntb.1 e.symm) fun e=>hf.ntb.2.1 e.symm
 ·rintro t (rfl|rfl) rfl
  ·rcases hf.ntb.2.2.1 with e|e<;>exact e
  ·rcases hf.ntb.2.2.2 with e|e<;>exact e
theorem KernP.put_reg (h:KernP F w own G M n) {i:Nat} (hi:i<F.workers) {t:Option Int} {b o:Nat} (fa:FAt G M i t b o) {k:Nat} (hk:k<32) {v:Int} (hv:U64 v):KO F w own G (putReg M i t k v) n (w.setCell ⟨b,o+1+k,none⟩ (.int .u64 v)):=by
 obtain ⟨ty,P,S,tb,tk,bv,hf⟩:=h.frame hi fa
 exact hf.out h.mem (Nat.le_refl n) ((FrOut.refl hf.fr (Nat.le_refl n)).reg hf.ne hk hv)
theorem KernP.bump (h:KernP F w own G M n) {i:Nat} (hi:i<F.workers) {t:Option Int} {b o:Nat} (fa:FAt G M i t b o):w.cell? ⟨b,o,none⟩=some (.int .i64 (getF M i t).pc)∧(0≤(getF M i t).pc∧(getF M i t).pc≤4000+n)∧w.frozen? ⟨b,o,none⟩=false∧KO F w own G (bumpF M i t) (n+1) (w.setCell ⟨b,o,none⟩ (.int .i64 ((getF M i t).pc+1))):=by
 obtain ⟨ty,P,S,tb,tk,bv,hf⟩:=h.frame hi fa
 have hp:=hf.fr.ok.pc
 exact ⟨hf.fr.cells.1,hp,hf.fr.cells.2.2.2 _,hf.out h.mem (Nat.le_succ n) ((FrOut.refl hf.fr (Nat.le_succ n)).pc hf.ne (by omega))⟩
theorem KernP.look (h:KernP F w own G M n) (id:Int) (hid:U64 id):(Instr.lookup 156 (.map (some G.th)) (.int .u64 id) false).run Tryz.prog w= .ok (.pointer ((runOf M.runs id).map fun _=>⟨G.tb id,0,none⟩)) w:=by
 obtain ⟨N,hm,-⟩:=h.runs.map
 rw[hm.look (S:=ptrs) Tryz.underlying156 (zeroThr w) hid]
 cases runOf M.runs id<;>rfl
theorem FAt.of {M':Mach} {i:Nat} {t:Option Int} {b o:Nat} (fa:FAt G M i t b o) (hr: ∀id r,runOf M.runs id=some r→ ∃r',runOf M'.runs id=some r'∧r'.l.length=r.l.length):FAt G M' i t b o:=by
 cases t with
 |none=>exact fa
 |some id=>
  obtain ⟨r,h1,h2,h3,h4⟩:=fa
  obtain ⟨r',q1,q2⟩:=hr id r h1
  exact ⟨r',q1,fun e=>h2 (by rw[←List.length_eq_zero_iff,←q2,e];rfl),by rw[q2];exact h3,h4⟩
end
end Go.Proofs.YtaangaogmnlljaaGreatDoor.Kn
namespace Go.Proofs.YtaangaogmnlljaaGreatDoor.Kn
open Go.RowKit Asm
section
variable {F:Fixed} {w:World} {own:Own} {G:KG} {M:Mach} {n:Nat}
theorem setRun_self {l:List Run} (hn:(l.map (·.id)).Nodup) {r:Run} (hr:r∈l):setRun l r=l:=by
 unfold setRun
 conv=>rhs;rw[←List.map_id l]
 apply List.map_congr_left
 intro s hs
 by_cases e:s.id=r.id
 ·have h1:=runOf_in hn hs
  have h2:=runOf_in hn hr
  rw[e,h2] at h1
  injection h1 with h1
  subst h1
  simp
 ·have:(s.id==r.id)=false:=by simp[e]
  rw[this]
  rfl
theorem KernP.setF_self (h:KernP F w own G M n) {i:Nat} (hi:i<F.workers) {t:Option Int} {b o:Nat} (fa:FAt G M i t b o):setF M i t (getF M i t)=M:=by
 cases t with
 |none=>
  show setW M i (wkrOf M i)=M
  unfold setW
  have:M.wkrs.set i (wkrOf M i)=M.wkrs:=set_get (by
   unfold wkrOf
   rw[List.getD_eq_getElem?_getD,List.getElem?_eq_getElem (h.wlen hi)]
   rfl)
  rw[this]
 |some id=>
  obtain ⟨r,hr,hne,-,-⟩:=fa
  unfold setF getF
  simp only[hr]
  have e1:withTop r { topF r with f:=(topF r).f}=r:=by
   show ({ r with l:=r.l.dropLast++ [r.l.getLastD {}]}:Run)=r
   have:r.l.dropLast++ [r.l.getLastD {}]=r.l:=by
    have h1:r.l.getLastD {}=r.l.getLast hne:=by rw[List.getLastD_eq_getLast?,List.getLast?_eq_some_getLast hne];rfl
    rw[h1]
    exact List.dropLast_concat_getLast hne
   rw[this]
  rw[e1,setRun_self h.runs.nod (runOf_mem hr).1]
theorem Homes.u64 {l:List TRow} (h:Homes l) (id:Int):U64 ((lookT l id).getD {}).home:=by
 have:=h.look id
 unfold U64
 omega
end
end Go.Proofs.YtaangaogmnlljaaGreatDoor.Kn
namespace Go.Proofs.YtaangaogmnlljaaGreatDoor.Kn
open Asm Hp
def TGood (l:List TRow):Prop:= ∀r∈l,(0≤r.t.home∧r.t.home≤65536)∧(r.t.id≠0→r.t.state≠0)
theorem TGood.set {l:List TRow} (h:TGood l) {p:Nat} {r:TRow} (hr:(0≤r.t.home∧r.t.home≤65536)∧(r.t.id≠0→r.t.state≠0)):TGood (l.set p r):=fun x hx=>by
 rcases List.mem_or_eq_of_mem_set hx with hx|hx
 ·exact h x hx
 ·rw[hx];exact hr
theorem TGood.of {l:List TRow} (h:TGood l) {id:Int} {p:Nat} {r:TRow} (e:ofT l id=some (p,r)):(0≤r.t.home∧r.t.home≤65536)∧(r.t.id≠0→r.t.state≠0):=h r (ofT_mem e).1
theorem TGood.be {l:List TRow} (h:TGood l) (id s:Int) (hs:s≠0):TGood (beT l id s):=by
 unfold beT
 cases e:ofT l id with
 |none=>exact h
 |some p=>
  obtain ⟨p,r⟩:=p
  simp only
  split
  ·exact h
  ·exact h.set ⟨(h.of e).1,fun _=>hs⟩
theorem good_free (n:Int):(0≤({ times:=n}:TRow).t.home∧({ times:=n}:TRow).t.home≤65536)∧(({ times:=n}:TRow).t.id≠0→({ times:=n}:TRow).t.state≠0):=⟨⟨Int.le_refl 0,by show (0:Int)≤65536;decide⟩,fun h=>absurd rfl h⟩
theorem TGood.loose {l:List TRow} (h:TGood l) (id:Int):TGood (looseT l id).1:=by
 unfold looseT
 cases e:ofT l id with
 |none=>exact h
 |some p=>
  obtain ⟨p,r⟩:=p
  simp only
  repeat' split
  ·exact h
  ·exact h.set (good_free _)
  ·exact h.set ⟨(h.of e).1,(h.of e).2⟩
theorem TGood.leave {l:List TRow} (h:TGood l) (id:Int):TGood (leaveT l id).1:=by
 unfold leaveT
 cases e:ofT l id with
 |none=>exact h
 |some p=>
  obtain ⟨p,r⟩:=p
  simp only
  repeat' split
  ·exact h
  ·exact h.set (good_free _)
  ·exact h.set ⟨(h.of e).1,(h.of e).2⟩
theorem TGood.born {l:List TRow} (h:TGood l) {home id:Int} {l':List TRow} (hh:0≤home∧home≤65536) (e:bornT l home=some (id,l')):TGood l':=by
 unfold bornT at e
 split at e
 ·cases e
 ·injection e with e
  injection e with _ e
  rw[←e]
  exact h.set ⟨hh,fun _=>by show (1:Int)≠0;decide⟩
theorem setF_tab (M:Mach) (i:Nat) (t:Option Int) (f:Frame):(setF M i t f).tab=M.tab∧(setF M i t f).out=M.out:=by
 unfold setF
 cases t with
 |none=>exact ⟨rfl,rfl⟩
 |some id=>simp only;cases runOf M.runs id<;>exact ⟨rfl,rfl⟩
def GoodP (k:Nat) (M M':Mach):Prop:=TGood M'.tab∧M'.out.length≤M.out.length+k
theorem GoodP.mono {k j:Nat} {M M':Mach} (h:GoodP k M M') (hj:k≤j):GoodP j M M':=⟨h.1,by have:=h.2;omega⟩
theorem GoodP.same {k:Nat} {M M' M2:Mach} (h:GoodP k M M') (e1:M2.tab=M'.tab) (e2:M2.out.length≤M'.out.length):GoodP k M M2:=⟨by rw[e1];exact h.1,by have:=h.2;omega⟩
end Go.Proofs.YtaangaogmnlljaaGreatDoor.Kn
namespace Go.Proofs.YtaangaogmnlljaaGreatDoor.Kn
open Go.RowKit Asm
section
variable {F:Fixed} {w:World} {own:Own} {G:KG} {M:Mach} {n:Nat}
theorem setF_setF (hn:(M.runs.map (·.id)).Nodup) {i:Nat} {t:Option Int} {b o:Nat} (fa:FAt G M i t b o) (f g:Frame):setF (setF M i t f) i t g=setF M i t g:=by
 cases t with
 |none=>
  show setW (setW M i { wkrOf M i with f:=f}) i { wkrOf (setW M i { wkrOf M i with f:=f}) i with f:=g}=setW M i { wkrOf M i with f:=g}
  rw[setW_setW]
  by_cases hi:i<M.wkrs.length
  ·rw[wkrOf_setW hi]
  ·unfold setW
   simp only
   rw[List.set_eq_of_length_le (by omega),List.set_eq_of_length_le (by omega)]
 |some id=>
  obtain ⟨r,hr,hne,-,-⟩:=fa
  have hid:=(runOf_mem hr).2
  have e1:setF M i (some id) f={ M with runs:=setRun M.runs (withTop r { topF r with f:=f})}:=by unfold setF;simp only[hr]
  have e3:setF M i (some id) g={ M with runs:=setRun M.runs (withTop r { topF r with f:=g})}:=by unfold setF;simp only[hr]
  have e2:runOf (setRun M.runs (withTop r { topF r with f:=f})) id=some (withTop r { topF r with f:=f}):=by
   rw[runOf_setRun hn (r0:=r) (by show runOf M.runs r.id=some r;rw[hid];exact hr),if_pos (by show id=r.id;exact hid.symm)]
  rw[e1,e3]
  unfold setF
  simp only[e2]
  have e4:withTop (withTop r { topF r with f:=f}) { topF (withTop r { topF r with f:=f}) with f:=g}=withTop r { topF r with f:=g}:=by
   simp[withTop,topF]
  rw[e4]
  have e5:setRun (setRun M.runs (withTop r { topF r with f:=f})) (withTop r { topF r with f:=g})=setRun M.runs (withTop r { topF r with f:=g}):=by
   unfold setRun
   rw[List.map_map]
   apply List.map_congr_left
   intro s _
   simp only[Function.comp]
   by_cases e:s.id=r.id
   ·have q:(s.id==(withTop r { topF r with f:=f}).id)=true:=by simp[withTop,e]
    simp[withTop,e]
   ·have q:(s.id==r.id)=false:=by simp[e]
    simp[withTop,q]
  rw[e5]
theorem getA_pos {a:Alc} {m:Mem} {n:Nat} {v:Int} {p:Nat} {a':Alc} {m':Mem} (h:getA a m n v=some (p,a',m')):p+n≤m.ws.length:=by
 unfold getA at h
 split at h
 ·cases h
 ·split at h
  ·cases h
  ·rename_i q k _
   split at h
   ·rename_i hf
    injection h with h
    injection h with h1 _
    subst h1
    unfold Mem.free? at hf
    rw[Bool.and_eq_true] at hf
    exact of_decide_eq_true hf.1
   ·cases h
theorem KernP.get_lt (h:KernP F w own G M n) {q p:Nat} {a':Alc} {m':Mem} {v:Int} (e:getA M.alc M.mem q v=some (p,a',m')):p≤65536:=by
 obtain ⟨gc,gw,hm,-⟩:=h.mem
 have:=getA_pos e
 have:=hm.ok.len
 have:=hm.ok.most
 omega
theorem putReg_putReg (hn:(M.runs.map (·.id)).Nodup) {i:Nat} (hi:i<M.wkrs.length) {t:Option Int} {b o:Nat} (fa:FAt G M i t b o) (k u v:Int):putReg (putReg M i t k u) i t k v=putReg M i t k v:=by
 unfold putReg
 rw[setF_setF hn fa]
 have hg:getF (setF M i t (setR (getF M i t) k u)) i t=setR (getF M i t) k u:=by
  cases t with
  |none=>
   show (wkrOf (setW M i { wkrOf M i with f:=setR (getF M i none) k u}) i).f=_
   rw[wkrOf_setW hi]
  |some id=>
   obtain ⟨r,hr,-,-,-⟩:=fa
   have hid:=(runOf_mem hr).2
   have e1:setF M i (some id) (setR (getF M i (some id)) k u)={ M with runs:=setRun M.runs (withTop r { topF r with f:=setR (getF M i (some id)) k u})}:=by unfold setF;simp only[hr]
   rw[e1]
   unfold getF
   simp only
   rw[runOf_setRun hn (r0:=r) (by show runOf M.runs r.id=some r;rw[hid];exact hr),if_pos (by show id=r.id;exact hid.symm)]
   simp[withTop,topF]
 rw[hg]
 unfold setR
 simp
theorem FAt.setF {i:Nat} {t:Option Int} {b o:Nat} (fa:FAt G M i t b o) (hn:(M.runs.map (·.id)).Nodup) (f:Frame):FAt G (Kn.setF M i t f) i t b o:=by
 cases t with
 |none=>exact fa
 |some id=>
  obtain ⟨r,hr,hne,h1,h2⟩:=fa
  have hid:=(runOf_mem hr).2
  have e1:Kn.setF M i (some id) f={ M with runs:=setRun M.runs (withTop r { topF r with f:=f})}:=by unfold Kn.setF;simp only[hr]
  rw[e1]
  have hl:(withTop r { topF r with f:=f}).l.length=r.l.length:=by
   have:0<r.l.length:=List.length_pos_iff.2 hne
   simp[withTop]
   omega
  refine ⟨withTop r { topF r with f:=f},?_,fun e=>hne (by rw[←List.length_eq_zero_iff,←hl,e];rfl),by rw[hl];exact h1,h2⟩
  show runOf (setRun M.runs (withTop r { topF r with f:=f})) id=_
  rw[runOf_setRun hn (r0:=r) (by show runOf M.runs r.id=some r;rw[hid];exact hr),if_pos (by show id=r.id;exact hid.symm)]
end
end Go.Proofs.YtaangaogmnlljaaGreatDoor.Kn
namespace Go.Proofs.YtaangaogmnlljaaGreatDoor.Kn
open Go.RowKit Asm
theorem freeT_at: ∀{l:List TRow} {p:Nat},freeT l=some p→ ∃r,l[p]?=some r∧r.t.id=0
 |[],_,h=>by cases h
 |r::l,p,h=>by
  unfold freeT at h
  split at h
  ·rename_i h0
   injection h with h
   subst h
   exact ⟨r,rfl,h0⟩
  ·cases e:freeT l with
   |none=>rw[e] at h;cases h
   |some q=>
    rw[e] at h
    injection h with h
    subst h
    obtain ⟨r',h1,h2⟩:=freeT_at e
    exact ⟨r',h1,h2⟩
theorem TabOk.born {l:List TRow} {N:Nat} (h:TabOk l N):BornOk l:=by
 intro home id l' e
 unfold bornT at e
 split at e
 ·cases e
 rename_i p hp
 obtain ⟨r,hr,hr0⟩:=freeT_at hp
 have hpl:p<l.length:=(List.getElem?_eq_some_iff.1 hr).1
 have hp64:p<64:=by rw[←h.len];exact hpl
 have hg:l.getD p {}=r:=by rw[List.getD_eq_getElem?_getD,hr];rfl
 have hok:=h.row p hp64
 have ht:=hok.times
 unfold tAt at ht
 rw[hg] at ht e
 have hN:=h.most
 injection e with e
 injection e with e1 e2
 have hid:id=(p:Int)+64* (r.times+1):=by rw[←e1];omega
 have h0:id≠0:=by omega
 have hq:(id%64).toNat=p:=by omega
 rw[e1] at e2
 refine ⟨h0,?_,fun x=>?_⟩
 ·refine view_none ?_
  unfold ofT
  rw[if_neg h0,hq,hr]
  have: ¬r.t.id=id:=by omega
  simp only[if_neg this]
 ·rw[←e2]
  by_cases hx:x=id
  ·subst hx
   rw[if_pos rfl]
   refine view_of (p:=p) (r:=⟨r.times+1,false,{ id:=x,state:=1,home:=home}⟩) ?_
   unfold ofT
   rw[if_neg h0,hq,List.getElem?_set_self hpl]
   simp
  ·rw[if_neg hx]
   by_cases hx0:x=0
   ·subst hx0;rfl
   ·have:ofT (l.set p ⟨r.times+1,false,{ id:=id,state:=1,home:=home}⟩) x=ofT l x:=by
     unfold ofT
     rw[if_neg hx0,if_neg hx0,List.getElem?_set]
     by_cases hqx:p=(x%64).toNat
     ·rw[if_pos hqx,if_pos hpl,←hqx,hr]
      have a: ¬id=x:=fun e=>hx e.symm
      have b: ¬r.t.id=x:=by omega
      simp only[if_neg a,if_neg b]
     ·rw[if_neg hqx]
    unfold view lookT
    rw[this]
theorem nodup_few: ∀(k:Nat) (l:List Nat),l.Nodup→(∀x∈l,x<k)→l.length≤k
 |0,l,_,h=>by
  cases l with
  |nil=>exact Nat.le_refl _
  |cons a l=>exact absurd (h a List.mem_cons_self) (by omega)
 |k+1,l,hn,h=>by
  by_cases hk:k∈l
  ·have h1:=nodup_few k (l.erase k) (hn.erase k) fun x hx=>by
    have hx2:=(List.Nodup.mem_erase_iff hn).1 hx
    have:=h x hx2.2
    omega
   rw[List.length_erase_of_mem hk] at h1
   omega
  ·have h1:=nodup_few k l hn fun x hx=>by
    have:=h x hx
    have:x≠k:=fun e=>hk (e▸hx)
    omega
   omega
theorem nodup_map {α:Type} {l:List α} {f g:α→Int} {q:α→Nat} (h:(l.map f).Nodup) (hq: ∀a∈l,∀b∈l,q a=q b→f a=f b):(l.map q).Nodup:=by
 induction l with
 |nil=>exact List.nodup_nil
 |cons a l ih=>
  rw[List.map_cons,List.nodup_cons] at h ⊢
  refine ⟨fun hm=>h.1 ?_,ih h.2 fun x hx y hy=>hq x (List.mem_cons_of_mem _ hx) y (List.mem_cons_of_mem _ hy)⟩
  obtain ⟨b,hb,e⟩:=List.mem_map.1 hm
  rw[hq a List.mem_cons_self b (List.mem_cons_of_mem _ hb) e.symm]
  exact List.mem_map_of_mem hb
section
variable {F:Fixed} {w:World} {own:Own} {G:KG} {M:Mach} {n:Nat}
theorem KernP.born (h:KernP F w own G M n):BornOk M.tab:=by
 obtain ⟨gt,N,hT,-,-⟩:=h.tab
 exact hT.ok.born
theorem alive_row {l:List TRow} {N:Nat} (h:TabOk l N) {id:Int} (ha:aliveV (view l id)):(id%64).toNat<64∧ ∃r,l[(id%64).toNat]?=some r∧r.t.id=id:=by
 obtain ⟨p,hp,-⟩:=ha
 unfold view lookT ofT at hp
 split at hp
 ·cases hp
 ·split at hp
  ·rename_i r hr
   split at hp
   ·rename_i e
    exact ⟨by have:=(List.getElem?_eq_some_iff.1 hr).1;rw[h.len] at this;exact this,r,hr,e⟩
   ·cases hp
  ·cases hp
theorem KernP.few (h:KernP F w own G M n) (hI:Inv M):M.clk.S.length≤64:=by
 obtain ⟨hb,hm,v,ab,N,K,hC,-⟩:=h.clk
 obtain ⟨gt,N2,hT,-,-⟩:=h.tab
 have h1:(M.clk.S.map fun t=>(t.w%64).toNat).Nodup:=nodup_map (g:=fun t=>t.w) hC.nod fun a ha b hb e=>by
  obtain ⟨-,r,hr,e1⟩:=alive_row hT.ok (hI.clk a ha)
  obtain ⟨-,r2,hr2,e2⟩:=alive_row hT.ok (hI.clk b hb)
  rw[e] at hr
  rw[hr] at hr2
  injection hr2 with hr2
  rw[←e1,←e2,hr2]
 have:=nodup_few 64 _ h1 fun x hx=>by
  obtain ⟨t,ht,e⟩:=List.mem_map.1 hx
  rw[←e]
  exact (alive_row hT.ok (hI.clk t ht)).1
 simpa using this
end
end Go.Proofs.YtaangaogmnlljaaGreatDoor.Kn
namespace Go.Proofs.YtaangaogmnlljaaGreatDoor.Kn
open Asm Hp
def deckL (m:Mem) (n i:Nat):Mem:=(((m.lay (17+3* (i:Int)) 1).lay (17+3* (i:Int)+1) 1).lay (17+3* (i:Int)+2) (17+3* (n:Int)+5* (i:Int))).lay (17+3* (n:Int)+5* (i:Int)) 4
def decksL (m:Mem) (n:Nat):Nat→Mem
 |0=>m
 |k+1=>deckL (decksL m n k) n k
def baseN (F:Fixed):Nat:=17+8*F.workers
def mapIf (m:Mem) (a n:Nat) (w:Int):Mem:=if 0<n then m.map a n w else m
def laidM (F:Fixed) (cells:Nat):Mem:=mapIf (mapIf (decksL ((⟨List.replicate cells 0,List.replicate cells 0⟩:Mem).map 0 (baseN F) 64) F.workers F.workers) (baseN F) F.wide.toNat 64) (baseN F+F.wide.toNat) F.narrow.toNat 32
def bareK (F:Fixed) (cells:Nat):Mach where
 mem:=laidM F cells
 alc:=⟨baseN F+F.wide.toNat+F.narrow.toNat,cells,[]⟩
 clk:={ now:=0,S:= [],last:=0}
 slps:= []
 ring:= []
 tab:=List.replicate 64 {}
 objs:=List.replicate 64 {}
 runs:= []
 wkrs:=List.replicate F.workers { f:={ pc:=F.loop}}
def newK (F:Fixed) (cells:Nat) (entry:Int):Mach:={ (bornK (bareK F cells) entry 0).2 with ring:=putRing (bornK (bareK F cells) entry 0).2.ring (bornK (bareK F cells) entry 0).1}
theorem tab0_row {r:TRow} (h:r∈List.replicate 64 ({}:TRow)):r={}:=(List.mem_replicate.1 h).2
theorem view0 (id:Int):view (List.replicate 64 {}) id=none:=by
 refine view_none ?_
 unfold ofT
 split
 ·rfl
 ·rename_i h0
  split
  ·rename_i r hr
   have:r={}:=tab0_row (List.mem_of_getElem? hr)
   subst this
   exact if_neg fun e=>h0 e.symm
  ·rfl
theorem count0 (l:List Int) (h: ∀x∈l,x=0) {id:Int} (h0:id≠0):l.count id=0:=List.count_eq_zero.2 fun hm=>h0 (h _ hm)
theorem inv_bare (F:Fixed) (cells:Nat):Inv (bareK F cells):=by
 have hh: ∀x∈handsOf (bareK F cells),x=0:=fun x hx=>by
  obtain ⟨k,hk,e⟩:=List.mem_map.1 hx
  have:=(List.mem_replicate.1 hk).2
  rw[←e,this]
 have hs: ∀x∈slotsOf (bareK F cells),x=0:=fun x hx=>by
  obtain ⟨k,hk,e⟩:=List.mem_map.1 hx
  have:=(List.mem_replicate.1 hk).2
  rw[←e,this]
 refine ⟨List.nodup_nil,fun id=>?_,fun r hr=>(by cases hr),⟨fun id h0=>?_,fun id h0 hm=>?_,fun id h0 hm=>?_⟩,fun s hs=>(by cases hs),fun t ht=>(by cases ht)⟩
 ·constructor
  ·intro h;cases h
  ·rintro ⟨p,hp,-⟩
   rw[show view (bareK F cells).tab id=none from view0 id] at hp
   cases hp
 ·rw[count0 _ hh h0,count0 _ hs h0]
  show ([]:List Int).count id+0+0≤1
  simp
 ·rcases hm with hm|hm
  ·cases hm
  ·exact absurd (hh _ hm) h0
 ·exact absurd (hs _ hm) h0
end Go.Proofs.YtaangaogmnlljaaGreatDoor.Kn
namespace Go.Proofs.YtaangaogmnlljaaGreatDoor.Kn
open Go.RowKit Asm
structure KB (w:World) (K:Nat) (P R S:List Value):Prop where
 obj:w.heap[K]?=some (.cells (P++R++S).toArray 159 (0,0))
 p:P.length=7
 r:R.length=1000
 s:S.length=14
section
variable {w w':World} {K:Nat} {P R S:List Value}
theorem KB.lt (h:KB w K P R S):K<w.heap.size:=blk_in h.obj
theorem KB.frz (h:KB w K P R S) (i:Nat):w.frozen? ⟨K,i,none⟩=false:=blk_frozen h.obj i
theorem KB.of_block (h:KB w K P R S) (e:w'.heap[K]?=w.heap[K]?):KB w' K P R S:=⟨e.trans h.obj,h.p,h.r,h.s⟩
theorem KB.below (h:KB w K P R S) (hb:Below w.heap.size w w'):KB w' K P R S:=h.of_block (hb.block K h.lt)
theorem KB.keeps {X:Nat→Prop} (h:KB w K P R S) (hk:Keeps X w w') (hx: ¬X K):KB w' K P R S:=h.of_block (hk.block K h.lt hx)
theorem KB.cp (h:KB w K P R S) {j:Nat} (hj:j<7) {v:Value} (hv:P[j]?=some v):w.cell? ⟨K,j,none⟩=some v:=by
 rw[blk_cell h.obj,List.getElem?_toArray,List.append_assoc,List.getElem?_append_left (by rw[h.p];exact hj),hv]
theorem KB.cr (h:KB w K P R S) {j:Nat} (hj:j<1000) {v:Value} (hv:R[j]?=some v):w.cell? ⟨K,7+j,none⟩=some v:=by
 rw[blk_cell h.obj,List.getElem?_toArray,List.append_assoc,List.getElem?_append_right (by rw[h.p];omega),h.p,List.getElem?_append_left (by rw[h.r];omega),Nat.add_sub_cancel_left,hv]
theorem KB.cs (h:KB w K P R S) (j:Nat) {v:Value} (hv:S[j]?=some v):w.cell? ⟨K,1007+j,none⟩=some v:=by
 have hl:(P++R).length=1007:=by rw[List.length_append,h.p,h.r]
 rw[blk_cell h.obj,List.getElem?_toArray,List.getElem?_append_right (by rw[hl];omega),hl,Nat.add_sub_cancel_left,hv]
theorem KB.setP (h:KB w K P R S) {j:Nat} (hj:j<7) (v:Value):KB (w.setCell ⟨K,j,none⟩ v) K (P.set j v) R S:=by
 refine ⟨?_,by rw[List.length_set];exact h.p,h.r,h.s⟩
 rw[set_block h.obj,List.setIfInBounds_toArray,List.append_assoc,List.set_append_left _ _ (by rw[h.p];exact hj),List.append_assoc]
theorem KB.setR (h:KB w K P R S) {j:Nat} (hj:j<1000) (v:Value):KB (w.setCell ⟨K,7+j,none⟩ v) K P (R.set j v) S:=by
 refine ⟨?_,h.p,by rw[List.length_set];exact h.r,h.s⟩
 rw[set_block h.obj,List.setIfInBounds_toArray,List.append_assoc,List.set_append_right _ _ (by rw[h.p];omega),h.p,Nat.add_sub_cancel_left,List.set_append_left _ _ (by rw[h.r];exact hj),List.append_assoc]
theorem KB.setS (h:KB w K P R S) (j:Nat) (v:Value):KB (w.setCell ⟨K,1007+j,none⟩ v) K P R (S.set j v):=by
 have hl:(P++R).length=1007:=by rw[List.length_append,h.p,h.r]
 refine ⟨?_,h.p,h.r,by rw[List.length_set];exact h.s⟩
 rw[set_block h.obj,List.setIfInBounds_toArray,List.set_append_right _ _ (by rw[hl];omega),hl,Nat.add_sub_cancel_left]
end
set_option maxRecDepth 100000 in
theorem base_at {w:World} {K gW k:Nat} (c0:w.cell? ⟨K,1015,none⟩=some (.slice (some ⟨gW,0,none⟩) k k)) (hk:1≤k∧k≤64):Calls Tryz.prog 42 #[.pointer (some ⟨K,0,none⟩)] w fun r w'=>r= .returned (.int .i64 (17+8* (k:Int)))∧w=w':=by
 have hkI:(1:Int)≤(k:Int)∧(k:Int)≤64:=by omega
 have hw:IntKind.i64.wrap (8* (k:Int))=8* (k:Int):=by rw[IntKind.wrap_i64];omega
 have hw2:IntKind.i64.wrap (17+8* (k:Int))=17+8* (k:Int):=by rw[IntKind.wrap_i64];omega
 clear hk
 go_enter Tryz.func42,Tryz.ntmps42
 go_wp2_with fail
 go_ret
 exact ⟨rfl,rfl⟩
set_option maxRecDepth 100000 in
theorem cells_at {w:World} {K:Nat} {wd nr:Int} (c0:w.cell? ⟨K,5,none⟩=some (.int .i64 wd)) (c1:w.cell? ⟨K,6,none⟩=some (.int .i64 nr)) (hwd:0≤wd∧0≤nr∧wd+nr≤256):Calls Tryz.prog 169 #[.pointer (some ⟨K,0,none⟩)] w fun r w'=>r= .returned (.int .i64 (wd+nr))∧Below w.heap.size w w':=by
 have hw:IntKind.i64.wrap (wd+nr)=wd+nr:=by rw[IntKind.wrap_i64];omega
 clear hwd
 go_enter Tryz.func169,Tryz.ntmps169
 go_wp2_with fail
 go_quiet (fail)
 go_wp2_with fail
 go_ret
 exact ⟨rfl,by first|exact Below.refl _ _|exact below_dn (Below.refl _ _) _⟩
theorem acc_lay {m:Mem} {a v:Int} (hw:m.width a=64):m.acc 1 a 0 v=some (m.held a,m.lay a v):=by
 unfold Mem.acc
 simp only[hw]
 rw[if_neg (by decide)]
 simp[cutW]
theorem decksL_width (m:Mem) (n:Nat): ∀(k:Nat) (b:Int),(decksL m n k).width b=m.width b
 |0,_=>rfl
 |k+1,b=>decksL_width m n k b
theorem free_decks (m:Mem) (n:Nat): ∀(k b l:Nat),(decksL m n k).free? b l=m.free? b l
 |0,_,_=>rfl
 |k+1,b,l=>free_decks m n k b l
theorem map_width {m:Mem} {n:Nat} {w:Int} (hl:n≤m.ws.length) {b:Int} (hb:0≤b∧b<n):(m.map 0 n w).width b=w:=by
 unfold Mem.width Mem.map fillL
 simp only[List.take_zero,List.nil_append]
 rw[List.getD_eq_getElem?_getD,List.getElem?_append_left (by simp;omega),List.getElem?_replicate,if_pos (by omega)]
 rfl
theorem free_zero {cells a n:Nat} (h:a+n≤cells):(⟨List.replicate cells 0,List.replicate cells 0⟩:Mem).free? a n=true:=by
 unfold Mem.free?
 simp only[List.length_replicate,Bool.and_eq_true,decide_eq_true_eq]
 refine ⟨h,?_⟩
 rw[List.all_eq_true]
 intro x hx
 have:=List.mem_of_mem_drop (List.mem_of_mem_take hx)
 rw[(List.mem_replicate.1 this).2]
 rfl
theorem free_map {m:Mem} {a n b k:Nat} {w:Int} (hl:m.ws.length=m.hs.length) (h:m.free? b k=true) (hab:a+n≤b):(m.map a n w).free? b k=true:=by
 unfold Mem.free? Mem.map at*
 simp only[Bool.and_eq_true,decide_eq_true_eq] at*
 obtain ⟨h1,h2⟩:=h
 have hlen:(fillL m.ws a n w).length=m.ws.length:=by
  unfold fillL
  simp only[List.length_append,List.length_take,List.length_replicate,List.length_drop]
  omega
 refine ⟨by rw[hlen];exact h1,?_⟩
 have e:((fillL m.ws a n w).drop b).take k=(m.ws.drop b).take k:=by
  have hA:(m.ws.take a++List.replicate n w).length=a+n:=by simp;omega
  unfold fillL
  rw[List.drop_append,List.drop_eq_nil_of_le (by rw[hA];exact hab),List.nil_append,hA,List.drop_drop]
  congr 2
  omega
 rw[e]
 exact h2
theorem mapIf_free {m:Mem} {a n b k:Nat} {w:Int} (h:m.free? b k=true) (hl:m.ws.length=m.hs.length) (hab:a+n≤b):(mapIf m a n w).free? b k=true:=by
 unfold mapIf
 split
 ·exact free_map hl h hab
 ·exact h
end Go.Proofs.YtaangaogmnlljaaGreatDoor.Kn
namespace Go.Proofs.YtaangaogmnlljaaGreatDoor.Kn
open Go.RowKit Asm
section
variable {F:Fixed} {w:World} {own:Own} {G:KG} {M:Mach} {n:Nat}
theorem KernP.hand0 (h:KernP F w own G M n) {i:Nat} (hi:i<F.workers) {v:Int} (hv:U64 v):KO F w own G (setW M i { wkrOf M i with hand:=v}) n (w.setCell ⟨G.gW,i*38+1,none⟩ (.int .u64 v)):=by
 have hk:=h.wk_ok hi
 have hp:=h.wk_put hi (j:=1) (by decide) (v:= .int .u64 v) (k':={ wkrOf M i with hand:=v}) rfl rfl hk.slot hv hk.left
 exact ⟨own,hp.1,hp.2.mono fun t e=>by rw[e];nofun⟩
theorem putReg_hand (M:Mach) (i:Nat) (t:Option Int) (k v:Int):(wkrOf (putReg M i t k v) i).hand=(wkrOf M i).hand:=by
 unfold putReg setF
 cases t with
 |none=>
  simp only
  by_cases hi:i<M.wkrs.length
  ·rw[wkrOf_setW hi]
  ·unfold wkrOf setW
   simp only
   rw[List.set_eq_of_length_le (by omega)]
 |some id=>
  simp only
  split<;>rfl
set_option maxRecDepth 100000 in
set_option maxHeartbeats 4000000 in
theorem handy_34a (h:KernP F w own G M n) {i:Nat} (hi:i<F.workers) {t:Option Int} {b o:Nat} (fa:FAt G M i t b o) (x:InsL) (ho:x.op=34) (ha:0≤x.a∧x.a<32) (hz:(wkrOf M i).hand≠0):
  Calls Tryz.prog 241 #[.pointer (some ⟨G.K,0,none⟩), .pointer (some ⟨G.gW,i*38,none⟩), .pointer (some ⟨b,o,none⟩), .agg (insV x)] w fun r w'=>r= .returned (.tuple #[])∧KO F w own G (putReg M i t x.a 0) (n) w':=by
 obtain ⟨k,hk⟩:=Int.eq_ofNat_of_zero_le ha.1
 have hk2:k<32:=by omega
 have hkI:(0:Int)≤(k:Int)∧(k:Int)<32:=by omega
 obtain ⟨ra1,ua,fa1,hbla⟩:=h.reg hi fa k hk2
 obtain ⟨xo,xa,xb,xc,xv,xm,xw⟩:=x
 simp only at ho hk ⊢
 subst ho hk
 unfold insV
 have hB: ∀q,Below w.heap.size w ((w.alloc (.cells #[.int .i64 34, .int .i64 k, .int .i64 xb, .int .i64 xc, .int .u64 xv, .int .i64 xm, .int .i64 xw] 68)).drewN q):=fun q=>below_dn ((Below.refl _ _).alloc (Nat.le_refl _) _) q
 have hz:=heap_alloc_new w (.cells #[.int .i64 34, .int .i64 k, .int .i64 xb, .int .i64 xc, .int .u64 xv, .int .i64 xm, .int .i64 xw] 68)
 have H:=Lib.hid h
 have HI:=Lib.hid hi
 have HFa:=Lib.hid fa
 have HB:=Lib.hid hB
 have HZ:=Lib.hid hz
 have HUa:=Lib.hid ua
 obtain ⟨k7,k8,k9,kr,kq,kt,ko,kh⟩:=h.kcells
 have hK:=h.klt
 obtain ⟨cs,ch,-,-,cf⟩:=h.wk_cells hi
 have hgW:G.gW<w.heap.size:=by
  obtain ⟨P,S,bv,q,-⟩:=h.wk.at (h.wlen hi)
  exact q.lens.lt
 have HWo:=Lib.hid (h.wk_ok hi)
 clear h hi fa hB hz ua ha
 generalize hra:rg (getF M i t) k=va at*
 clear hra
 go_enter Tryz.func241,Tryz.ntmps241
 go_wp2_with fail
 go_quiet (fail)
 go_upto_region 10 with fail
 have hb:=HB.out nq
 have h1:=H.out.below hb
 have HT:=Lib.hid (touch_below (ts:=fun t=>t≠ .other) (t:= .other) (own:=own) hb)
 have BO:Hid (ext own w.heap.size .other w.heap.size= .other):=Lib.hid (ext_tag (Or.inr (Nat.le_refl _)))
 have BZ:Hid (((w.alloc (.cells #[.int .i64 34, .int .i64 k, .int .i64 xb, .int .i64 xc, .int .u64 xv, .int .i64 xm, .int .i64 xw] 68)).drewN nq).heap[w.heap.size]?=some (.cells #[.int .i64 34, .int .i64 k, .int .i64 xb, .int .i64 xc, .int .u64 xv, .int .i64 xm, .int .i64 xw] 68 (0,0))):=HZ
 generalize (w.alloc (.cells #[.int .i64 34, .int .i64 k, .int .i64 xb, .int .i64 xc, .int .u64 xv, .int .i64 xm, .int .i64 xw] 68)).drewN nq=w1 at*
 generalize w.heap.size=bx at*
 generalize ext own bx .other=own1 at*
 clear hb
 obtain ⟨u0,-,u1,-⟩:=h1.reg HI.out HFa.out k hk2
 obtain ⟨own2,h2,t2⟩:=h1.put_reg HI.out HFa.out hk2 u64_0
 have HT:=Lib.hid (HT.out.trans t2)
 have HFa2:Hid (FAt G (putReg M i t k 0) i t b o):=Lib.hid (FAt.setF HFa.out H.out.runs.nod _)
 obtain ⟨x1,x2,x3⟩:=t2.other BO.out (blk_in BZ.out)
 replace BZ:=Lib.hid (x1.trans BZ.out)
 replace BO:=Lib.hid x2
 clear x1 x2 x3 t2 h1 k7 k8 k9 kr kq kt ko kh cs ch cf
 go_upto_region 11 with fail
 generalize w1.setCell ⟨b,o+1+k,none⟩ (.int .u64 0)=w2 at*
 obtain ⟨-,ch,-,-,cf⟩:=h2.wk_cells HI.out
 rw[putReg_hand] at ch
 have HZz:=Lib.hid hz
 have hz2:((wkrOf M i).hand==0)=false:=beq_eq_false_iff_ne.2 hz
 have H2:=Lib.hid h2
 clear h2 hz
 go_wp2_with fail
 go_end0
 exact ⟨rfl,own2,H2.out,HT.out⟩
theorem setW_put (M:Mach) (i:Nat) (id:Int) (k v:Int) (x:Wkr):putReg (setW M i x) i (some id) k v=setW (putReg M i (some id) k v) i x:=by
 unfold putReg setF getF setW
 simp only
 cases runOf M.runs id<;>rfl
theorem putReg_ring (M:Mach) (i:Nat) (t:Option Int) (k v:Int) (l:List Int):{ putReg M i t k v with ring:=l}=putReg { M with ring:=l} i t k v:=by
 unfold putReg setF getF
 cases t with
 |none=>rfl
 |some id=>
  simp only
  cases runOf M.runs id<;>rfl
theorem wkrOf_put (M:Mach) (i:Nat) (id:Int) (k v:Int):wkrOf (putReg M i (some id) k v) i=wkrOf M i:=by
 unfold putReg setF
 simp only
 split<;>rfl
theorem ijt_eq (h:KernP F w own G M n) {i:Nat} (hi:i<F.workers) {t:Option Int} {b o:Nat} (fa:FAt G M i t b o) (k hd:Int) (R:List Int):putReg (setW { putReg M i t k 0 with ring:=R} i { wkrOf { putReg M i t k 0 with ring:=R} i with hand:=hd}) i t k hd=putReg (setW { M with ring:=R} i { wkrOf M i with hand:=hd}) i t k hd:=by
 have hl:=h.wlen hi
 cases t with
 |none=>
  have pn: ∀(N:Mach) (z:Wkr) (v:Int),i<N.wkrs.length→putReg (setW N i z) i none k v=setW N i { z with f:=setR z.f k v}:=fun N z v hN=>by
   show setW (setW N i z) i { wkrOf (setW N i z) i with f:=setR (wkrOf (setW N i z) i).f k v}=_
   rw[wkrOf_setW hN,setW_setW]
  have p0:({ putReg M i none k 0 with ring:=R}:Mach)=setW { M with ring:=R} i { wkrOf M i with f:=setR (wkrOf M i).f k 0}:=rfl
  rw[p0,wkrOf_setW (M:={ M with ring:=R}) hl,setW_setW,pn { M with ring:=R} _ _ hl,pn { M with ring:=R} _ _ hl]
  have e4:setR (setR (wkrOf M i).f k 0) k hd=setR (wkrOf M i).f k hd:=by unfold setR;simp
  rw[e4]
 |some id=>
  have e1:wkrOf { putReg M i (some id) k 0 with ring:=R} i=wkrOf M i:=wkrOf_put M i id k 0
  rw[e1,putReg_ring,setW_put,setW_put,putReg_putReg (M:={ M with ring:=R}) h.runs.nod hl (by exact fa) k 0 hd]
set_option maxRecDepth 100000 in
set_option maxHeartbeats 4000000 in
theorem handy_34b (h:KernP F w own G M n) {i:Nat} (hi:i<F.workers) {t:Option Int} {b o:Nat} (fa:FAt G M i t b o) (x:InsL) (ho:x.op=34) (ha:0≤x.a∧x.a<32) (hz0:(wkrOf M i).hand=0):
  Calls Tryz.prog 241 #[.pointer (some ⟨G.K,0,none⟩), .pointer (some ⟨G.gW,i*38,none⟩), .pointer (some ⟨b,o,none⟩), .agg (insV x)] w fun r w'=>r= .returned (.tuple #[])∧KO F w own G (putReg (setW { M with ring:=M.ring.drop 1} i { wkrOf M i with hand:=M.ring.headD 0}) i t x.a (M.ring.headD 0)) (n) w':=by
 obtain ⟨k,hk⟩:=Int.eq_ofNat_of_zero_le ha.1
 have hk2:k<32:=by omega
 have hkI:(0:Int)≤(k:Int)∧(k:Int)<32:=by omega
 obtain ⟨ra1,ua,fa1,hbla⟩:=h.reg hi fa k hk2
 obtain ⟨xo,xa,xb,xc,xv,xm,xw⟩:=x
 simp only at ho hk ⊢
 subst ho hk
 unfold insV
 have hB: ∀q,Below w.heap.size w ((w.alloc (.cells #[.int .i64 34, .int .i64 k, .int .i64 xb, .int .i64 xc, .int .u64 xv, .int .i64 xm, .int .i64 xw] 68)).drewN q):=fun q=>below_dn ((Below.refl _ _).alloc (Nat.le_refl _) _) q
 have hz:=heap_alloc_new w (.cells #[.int .i64 34, .int .i64 k, .int .i64 xb, .int .i64 xc, .int .u64 xv, .int .i64 xm, .int .i64 xw] 68)
 have H:=Lib.hid h
 have HI:=Lib.hid hi
 have HFa:=Lib.hid fa
 have HB:=Lib.hid hB
 have HZ:=Lib.hid hz
 have HUa:=Lib.hid ua
 obtain ⟨k7,k8,k9,kr,kq,kt,ko,kh⟩:=h.kcells
 have hK:=h.klt
 obtain ⟨cs,ch,-,-,cf⟩:=h.wk_cells hi
 have hgW:G.gW<w.heap.size:=by
  obtain ⟨P,S,bv,q,-⟩:=h.wk.at (h.wlen hi)
  exact q.lens.lt
 have HWo:=Lib.hid (h.wk_ok hi)
 have HZz:=Lib.hid hz0
 clear hz0
 clear h hi fa hB hz ua ha
 generalize hra:rg (getF M i t) k=va at*
 clear hra
 have HRing:=Lib.hid (show U64 (M.ring.headD 0) from by
  cases hm:M.ring with
  |nil=>exact u64_0
  |cons a l=>
   obtain ⟨gr,⟨fr,C,hR⟩,-⟩:=H.out.ring
   exact hR.u a (by rw[hm];exact List.mem_cons_self))
 go_enter Tryz.func241,Tryz.ntmps241
 go_wp2_with fail
 go_quiet (fail)
 go_upto_region 10 with fail
 have hb:=HB.out nq
 have h1:=H.out.below hb
 have HT:=Lib.hid (touch_below (ts:=fun t=>t≠ .other) (t:= .other) (own:=own) hb)
 have BO:Hid (ext own w.heap.size .other w.heap.size= .other):=Lib.hid (ext_tag (Or.inr (Nat.le_refl _)))
 have BZ:Hid (((w.alloc (.cells #[.int .i64 34, .int .i64 k, .int .i64 xb, .int .i64 xc, .int .u64 xv, .int .i64 xm, .int .i64 xw] 68)).drewN nq).heap[w.heap.size]?=some (.cells #[.int .i64 34, .int .i64 k, .int .i64 xb, .int .i64 xc, .int .u64 xv, .int .i64 xm, .int .i64 xw] 68 (0,0))):=HZ
 generalize (w.alloc (.cells #[.int .i64 34, .int .i64 k, .int .i64 xb, .int .i64 xc, .int .u64 xv, .int .i64 xm, .int .i64 xw] 68)).drewN nq=w1 at*
 generalize w.heap.size=bx at*
 generalize ext own bx .other=own1 at*
 clear hb
 obtain ⟨u0,-,u1,-⟩:=h1.reg HI.out HFa.out k hk2
 obtain ⟨own2,h2,t2⟩:=h1.put_reg HI.out HFa.out hk2 u64_0
 have HT:=Lib.hid (HT.out.trans t2)
 have HFa2:Hid (FAt G (putReg M i t k 0) i t b o):=Lib.hid (FAt.setF HFa.out H.out.runs.nod _)
 obtain ⟨x1,x2,x3⟩:=t2.other BO.out (blk_in BZ.out)
 replace BZ:=Lib.hid (x1.trans BZ.out)
 replace BO:=Lib.hid x2
 clear x1 x2 x3 t2 h1 k7 k8 k9 kr kq kt ko kh cs ch cf
 go_upto_region 11 with fail
 generalize w1.setCell ⟨b,o+1+k,none⟩ (.int .u64 0)=w2 at*
 obtain ⟨-,ch,-,-,cf⟩:=h2.wk_cells HI.out
 rw[putReg_hand,HZz.out] at ch
 have cr:=h2.rcell
 have HRt:Calls Tryz.prog 294 #[.pointer (some ⟨G.R,0,none⟩)] w2 fun e w'=>e= .returned (.tuple #[.int .u64 (M.ring.headD 0), .bool (!M.ring.isEmpty)])∧KO F w2 own2 G { putReg M i t k 0 with ring:=M.ring.drop 1} n w':=by
  have q:=krtake h2
  have e:(putReg M i t k 0).ring=M.ring:=by
   unfold putReg setF
   cases t with
   |none=>rfl
   |some id=>
    simp only
    split<;>rfl
  rw[e] at q
  exact q
 have HEq:=Lib.hid (ijt_eq H.out HI.out HFa.out k (M.ring.headD 0) (M.ring.drop 1))
 generalize hhd:M.ring.headD 0=hd at*
 have HHd:=Lib.hid hhd
 clear hhd
 generalize (!M.ring.isEmpty)=bz at*
 have HRt:=Lib.hid HRt
 clear h2
 go_wp2_with fail
 refine HRt.out.mono ?_
 rintro e w3 ⟨rfl,own3,h3,t3⟩
 have HT:=Lib.hid (HT.out.trans t3)
 obtain ⟨-,ch3,-,-,cf3⟩:=h3.wk_cells HI.out
 have cf4:=cf3 (i*38+1)
 obtain ⟨own4,h4,t4⟩:=h3.hand0 HI.out HRing.out
 have HT:=Lib.hid (HT.out.trans t4)
 have hfa4:FAt G (setW { putReg M i t k 0 with ring:=M.ring.drop 1} i { wkrOf { putReg M i t k 0 with ring:=M.ring.drop 1} i with hand:=hd}) i t b o:=by
  have q:=HFa2.out
  cases t with
  |none=>exact q
  |some id=>exact q
 obtain ⟨u0,-,u1,-⟩:=h4.reg HI.out hfa4 k hk2
 obtain ⟨-,ch5,-,-,-⟩:=h4.wk_cells HI.out
 have HPx:=h4.put_reg HI.out hfa4 hk2 HRing.out
 rw[HEq.out] at HPx
 have HPx:=Lib.hid HPx
 rw[wkrOf_setW (h3.wlen HI.out)] at ch5
 clear h3 t3 h4 t4 hfa4 cf3 ch cf
 go_wp2_with fail
 go_end0
 rw[HHd.out]
 exact ⟨rfl,KO.trans HT.out HPx.out⟩
theorem KernP.run3 (h:KernP F w own G M n) {i:Nat} (hi:i<F.workers) {v:Int} (hv:U64 v):KO F w own G (setW M i { wkrOf M i with slot:=v,hand:=0,left:=24}) n (((w.setCell ⟨G.gW,i*38,none⟩ (.int .u64 v)).setCell ⟨G.gW,i*38+1,none⟩ (.int .u64 0)).setCell ⟨G.gW,i*38+3,none⟩ (.int .i64 24)):=by
 have hk:=h.wk_ok hi
 have hl:=h.wlen hi
 have p1:=h.wk_put hi (j:=0) (by decide) (v:= .int .u64 v) (k':={ wkrOf M i with slot:=v}) rfl rfl hv hk.hand hk.left
 have e1:wkrOf (setW M i { wkrOf M i with slot:=v}) i={ wkrOf M i with slot:=v}:=wkrOf_setW hl _
 have p2:=p1.1.wk_put hi (j:=1) (by decide) (v:= .int .u64 0) (k':={ wkrOf M i with slot:=v,hand:=0}) (by rw[e1];rfl) (by rw[e1]) hv u64_0 hk.left
 rw[setW_setW] at p2
 have e2:wkrOf (setW M i { wkrOf M i with slot:=v,hand:=0}) i={ wkrOf M i with slot:=v,hand:=0}:=wkrOf_setW hl _
 have p3:=p2.1.wk_put hi (j:=3) (by decide) (v:= .int .i64 24) (k':={ wkrOf M i with slot:=v,hand:=0,left:=24}) (by rw[e2];rfl) (by rw[e2]) hv u64_0 ⟨(by show (0:Int)≤24;decide),(by show (24:Int)≤100;decide)⟩
 rw[setW_setW] at p3
 exact ⟨own,p3.1,((p1.2.trans p2.2).trans p3.2).mono fun t e=>by rw[e];nofun⟩
set_option maxRecDepth 100000 in
set_option maxHeartbeats 4000000 in
theorem handy_35 (h:KernP F w own G M n) {i:Nat} (hi:i<F.workers) {t:Option Int} {b o:Nat} (fa:FAt G M i t b o) (x:InsL) (ho:x.op=35) (ha:0≤x.a∧x.a<32):
  Calls Tryz.prog 241 #[.pointer (some ⟨G.K,0,none⟩), .pointer (some ⟨G.gW,i*38,none⟩), .pointer (some ⟨b,o,none⟩), .agg (insV x)] w fun r w'=>r= .returned (.tuple #[])∧KO F w own G (if (wkrOf M i).hand≠0∧rg (getF M i t) x.a=(wkrOf M i).hand∧(wkrOf M i).slot=0 then setW { M with tab:=beT M.tab (wkrOf M i).hand 2} i { wkrOf M i with slot:=(wkrOf M i).hand,hand:=0,left:=24} else M) (n) w':=by
 obtain ⟨k,hk⟩:=Int.eq_ofNat_of_zero_le ha.1
 have hk2:k<32:=by omega
 have hkI:(0:Int)≤(k:Int)∧(k:Int)<32:=by omega
 obtain ⟨ra1,ua,fa1,hbla⟩:=h.reg hi fa k hk2
 obtain ⟨xo,xa,xb,xc,xv,xm,xw⟩:=x
 simp only at ho hk ⊢
 subst ho hk
 unfold insV
 have hB: ∀q,Below w.heap.size w ((w.alloc (.cells #[.int .i64 35, .int .i64 k, .int .i64 xb, .int .i64 xc, .int .u64 xv, .int .i64 xm, .int .i64 xw] 68)).drewN q):=fun q=>below_dn ((Below.refl _ _).alloc (Nat.le_refl _) _) q
 have hz:=heap_alloc_new w (.cells #[.int .i64 35, .int .i64 k, .int .i64 xb, .int .i64 xc, .int .u64 xv, .int .i64 xm, .int .i64 xw] 68)
 have H:=Lib.hid h
 have HI:=Lib.hid hi
 have HFa:=Lib.hid fa
 have HB:=Lib.hid hB
 have HZ:=Lib.hid hz
 have HUa:=Lib.hid ua
 obtain ⟨k7,k8,k9,kr,kq,kt,ko,kh⟩:=h.kcells
 have hK:=h.klt
 obtain ⟨cs,ch,-,-,cf⟩:=h.wk_cells hi
 have hgW:G.gW<w.heap.size:=by
  obtain ⟨P,S,bv,q,-⟩:=h.wk.at (h.wlen hi)
  exact q.lens.lt
 have HWo:=Lib.hid (h.wk_ok hi)
 clear h hi fa hB hz ua ha
 generalize hra:rg (getF M i t) k=va at*
 have HRa:=Lib.hid hra
 clear hra
 have HUh:=Lib.hid HWo.out.hand
 have HRu:=Lib.hid (fun W own' (h':KernP F W own' G M n)=>h'.run3 HI.out HUh.out)
 by_cases hc:(wkrOf M i).hand≠0∧va=(wkrOf M i).hand∧(wkrOf M i).slot=0
 ·have HC:=Lib.hid hc
  obtain ⟨c1,c2,c3⟩:=hc
  have d1:((wkrOf M i).hand !=0)=true:=bne_iff_ne.2 c1
  rw[c3] at cs
  subst c2
  clear c1 c3
  go_enter Tryz.func241,Tryz.ntmps241
  go_wp2_with fail
  go_quiet (fail)
  go_upto_region 15 with fail
  have hb:=HB.out nq
  have h1:=H.out.below hb
  have HT:=Lib.hid (touch_below (ts:=fun t=>t≠ .other) (t:= .other) (own:=own) hb)
  have BO:Hid (ext own w.heap.size .other w.heap.size= .other):=Lib.hid (ext_tag (Or.inr (Nat.le_refl _)))
  have BZ:Hid (((w.alloc (.cells #[.int .i64 35, .int .i64 k, .int .i64 xb, .int .i64 xc, .int .u64 xv, .int .i64 xm, .int .i64 xw] 68)).drewN nq).heap[w.heap.size]?=some (.cells #[.int .i64 35, .int .i64 k, .int .i64 xb, .int .i64 xc, .int .u64 xv, .int .i64 xm, .int .i64 xw] 68 (0,0))):=HZ
  generalize (w.alloc (.cells #[.int .i64 35, .int .i64 k, .int .i64 xb, .int .i64 xc, .int .u64 xv, .int .i64 xm, .int .i64 xw] 68)).drewN nq=w1 at*
  generalize w.heap.size=bx at*
  generalize ext own bx .other=own1 at*
  clear hb
  obtain ⟨cs1,ch1,-,-,cf1⟩:=h1.wk_cells HI.out
  rw[show (wkrOf M i).slot=0 from HC.out.2.2] at cs1
  obtain ⟨ra2,-,-,-⟩:=h1.reg HI.out HFa.out k hk2
  rw[show rg (getF M i t) k=(wkrOf M i).hand from HRa.out] at ra2
  clear cs ch cf ra1
  go_quiet (fail)
  go_upto_region 16 with fail
  have hcl: ∃u,w1.cell? ⟨G.gW,i*38+3,none⟩=some u:=⟨_,(h1.wk_cells HI.out).2.2.2.1⟩
  obtain ⟨cl,hcl⟩:=hcl
  have f0:=cf1 (i*38)
  have f1:=cf1 (i*38+1)
  have f3:=cf1 (i*38+3)
  obtain ⟨own2,h2,t2⟩:=HRu.out _ _ (h1.drewN nq)
  have HT:=Lib.hid (HT.out.trans ((touch_drewN w1 own1 nq).trans t2))
  have H2:=Lib.hid h2
  clear h1 h2 t2 cf1 k7 k8 k9 kr kq kt ko kh ra2
  go_upto_region 17 with fail
  have c12:=H2.out.tcell
  obtain ⟨cs2,-⟩:=H2.out.wk_cells HI.out
  rw[wkrOf_setW (H.out.wlen HI.out)] at cs2
  generalize (((w1.drewN nq).setCell ⟨G.gW,i*38,none⟩ (.int .u64 (wkrOf M i).hand)).setCell ⟨G.gW,i*38+1,none⟩ (.int .u64 0)).setCell ⟨G.gW,i*38+3,none⟩ (.int .i64 24)=w2 at*
  clear f0 f1 f3 hcl ch1 cs1
  go_still_tail 8,(by kernel_rfl)
  change wpList _ _ _ _ _ w2.drew
  go_wp2_with fail
  refine (kbe H2.out.drew (wkrOf M i).hand 2 HUh.out (Or.inr (Or.inl rfl))).mono ?_
  rintro e w3 ⟨⟨ev,rfl⟩,hk⟩
  have HK:=Lib.hid hk
  clear hk
  go_wp2_with fail
  go_end0
  try rw[if_pos HC.out]
  exact ⟨rfl,KO.trans HT.out HK.out.drew⟩
 ·have HC:=Lib.hid hc
  by_cases c1:(wkrOf M i).hand=0
  ·rw[c1] at ch
   clear hc c1
   go_enter Tryz.func241,Tryz.ntmps241
   go_wp2_with fail
   go_quiet (fail)
   go_wp2_with fail
   go_quiet (fail)
   go_wp2_with fail
   go_end0
   try rw[if_neg HC.out]
   exact ⟨rfl,KO.below H.out (HB.out _)⟩
  ·have d1:((wkrOf M i).hand !=0)=true:=bne_iff_ne.2 c1
   by_cases c2:va=(wkrOf M i).hand
   ·have c3: ¬(wkrOf M i).slot=0:=fun e=>hc ⟨c1,c2,e⟩
    have d2:(va==(wkrOf M i).hand)=true:=by simp[c2]
    have d3:((wkrOf M i).slot==0)=false:=beq_eq_false_iff_ne.2 c3
    clear hc c1 c2 c3
    go_enter Tryz.func241,Tryz.ntmps241
    go_wp2_with fail
    go_quiet (fail)
    go_wp2_with fail
    go_quiet (fail)
    go_wp2_with fail
    go_end0
    try rw[if_neg HC.out]
    exact ⟨rfl,KO.below H.out (HB.out _)⟩
   ·have d2:(va==(wkrOf M i).hand)=false:=beq_eq_false_iff_ne.2 c2
    clear hc c1 c2
    go_enter Tryz.func241,Tryz.ntmps241
    go_wp2_with fail
    go_quiet (fail)
    go_wp2_with fail
    go_quiet (fail)
    go_wp2_with fail
    go_end0
    try rw[if_neg HC.out]
    exact ⟨rfl,KO.below H.out (HB.out _)⟩
end
end Go.Proofs.YtaangaogmnlljaaGreatDoor.Kn
namespace Go.Proofs.YtaangaogmnlljaaGreatDoor.Errs
open Go.RowKit Go.Extern.Stop Go.Stop Go.Extern
def ErrOut (w:World) (r:List (ByteArray×Int)) (k:Int) (e:Ending) (w':World):Prop:= ∃v,e= .returned v∧IsErr w' r k v∧Below w.heap.size w w'
def FailOut (w:World) (r:List (ByteArray×Int)) (k:Int) (e:Ending) (w':World):Prop:= ∃v,e= .returned v∧IsFail w' r k v∧Below w.heap.size w w'
def posixS:ByteArray:=⟨#[112,111,115,105,120]⟩
theorem posfail_any (n k:Int) (w:World):Calls Tryz.prog 29 #[.int .i64 n, .iface 86 (.int .i64 k)] w (ErrOut w [(posixS,n)] k):=by
 go_enter Tryz.func29,Tryz.ntmps29
 go_wp2
 go_ret
 refine ⟨_,rfl,⟨w.heap.size,_,rfl,by simp,?_,?_,?_,rfl⟩,(Below.refl _ _).alloc (Nat.le_refl _) _⟩
 all_goals simp[posixS]
theorem no_any (s:ByteArray) (n k:Int) (w:World):Calls Tryz.prog 39 #[.string s, .int .i64 n, .int .i64 k] w (FailOut w [(s,n)] k):=by
 go_enter Tryz.func39,Tryz.ntmps39
 go_wp2
 go_ret
 refine ⟨_,rfl,⟨w.heap.size+1+1,some ⟨w.heap.size,0,none⟩,some ⟨w.heap.size+1,0,none⟩,1,1,rfl,by simp,?_,?_,?_,?_⟩,?_⟩
 ·exact World.cell?_alloc_at _ _ _ _ (by simp)
 ·exact World.cell?_alloc_at _ _ _ _ (by simp)
 ·exact World.cell?_alloc_at _ _ _ _ (by simp)
 ·intro i s' n' hi
  match i,hi with
  |0,hi=>
   simp at hi
   obtain ⟨rfl,rfl⟩:=hi
   exact ⟨w.heap.size,0,w.heap.size+1,0,rfl,rfl,(by simp;try omega),(by simp;try omega),by rw[World.cell?_alloc_lt _ _ _ (by simp;try omega),World.cell?_alloc_lt _ _ _ (by simp)];exact World.cell?_alloc_at _ _ _ _ rfl,by rw[World.cell?_alloc_lt _ _ _ (by simp)];exact World.cell?_alloc_at _ _ _ _ (by simp)⟩
  |i+1,hi=>simp at hi
 ·repeat (first|exact Below.refl _ _|refine Below.alloc ?_ (by simp;try omega) _)
def kindOf (c:Int):Int:=if c=1∨c=11∨c=16∨c=35∨c=110 then 8 else if c=3∨c=38 then 7 else if c=12 then 3 else 1
theorem problem_ok (n:Int) (w:World):Calls Tryz.prog 38 #[.int .i64 n, .int .u64 0] w fun e w'=>e= .returned .nilIface∧w=w':=by
 go_enter Tryz.func38,Tryz.ntmps38
 go_wp2
 go_ret
 exact ⟨rfl,rfl⟩
set_option maxHeartbeats 1000000 in
theorem problem_err (n c:Int) (w:World) (hc:c≠0):Calls Tryz.prog 38 #[.int .i64 n, .int .u64 c] w (ErrOut w [(posixS,n)] (kindOf c)):=by
 have HF:=Lib.hid (fun k=>posfail_any n k w)
 by_cases h1:c=1∨c=11∨c=16∨c=35∨c=110∨c=3∨c=38∨c=12
 ·rcases h1 with rfl|rfl|rfl|rfl|rfl|rfl|rfl|rfl
  all_goals
   go_enter Tryz.func38,Tryz.ntmps38
   go_wp2_with (go_at_call 29;refine (HF.out _).mono ?_;rintro e w' ⟨v,rfl,hq1,hq2⟩)
   go_ret
   exact ⟨v,rfl,hq1,hq2⟩
 ·have hk:kindOf c=1:=by
   unfold kindOf
   rw[if_neg (by omega),if_neg (by omega),if_neg (by omega)]
  rw[hk]
  have b0:(c==0)=false:=by simp[hc]
  have b1:(c==1)=false:=by simp;omega
  have b2:(c==11)=false:=by simp;omega
  have b3:(c==16)=false:=by simp;omega
  have b4:(c==35)=false:=by simp;omega
  have b5:(c==110)=false:=by simp;omega
  have b6:(c==3)=false:=by simp;omega
  have b7:(c==38)=false:=by simp;omega
  have b8:(c==12)=false:=by simp;omega
  clear hk h1 hc
  go_enter Tryz.func38,Tryz.ntmps38
  go_wp2_with (go_at_call 29;refine (HF.out _).mono ?_;rintro e w' ⟨v,rfl,hq1,hq2⟩)
  go_ret
  exact ⟨v,rfl,hq1,hq2⟩
end Go.Proofs.YtaangaogmnlljaaGreatDoor.Errs
namespace Go.Proofs.YtaangaogmnlljaaGreatDoor.PosTab
open Go.RowKit
theorem ProgTab.cell {w:World} {b:Nat} (h:ProgTab w b) {k:Nat} {r:CRow} (hr:tab[k]?=some r) {j:Nat} {v:Value} (hj:r.prog[j]?=some v):w.cell? ⟨b,k*7+j,none⟩=some v:=by
 obtain ⟨fr,h⟩:=h
 have hj7:j<7:=by have:=(List.getElem?_eq_some_iff.1 hj).1;simpa[CRow.prog] using this
 have e:=flat_at CRow.prog 7 (fun _=>rfl) tab k j r hr hj7
 simp only[World.cell?,h]
 simpa[e] using hj
theorem RefTab.cell {w:World} {b:Nat} (h:RefTab w b) {k:Nat} {r:CRow} (hr:tab[k]?=some r) {j:Nat} {v:Value} (hj:r.ref[j]?=some v):w.cell? ⟨b,k*8+j,none⟩=some v:=by
 obtain ⟨fr,h⟩:=h
 have hj7:j<8:=by have:=(List.getElem?_eq_some_iff.1 hj).1;simpa[CRow.ref] using this
 have e:=flat_at CRow.ref 8 (fun _=>rfl) tab k j r hr hj7
 simp only[World.cell?,h]
 simpa[e] using hj
theorem ProgTab.below {w w':World} {b B:Nat} (h:ProgTab w b) (hb:Below B w w') (hB:b<B):ProgTab w' b:=by
 obtain ⟨fr,h⟩:=h
 exact ⟨fr,(hb.block b hB).trans h⟩
theorem RefTab.below {w w':World} {b B:Nat} (h:RefTab w b) (hb:Below B w w') (hB:b<B):RefTab w' b:=by
 obtain ⟨fr,h⟩:=h
 exact ⟨fr,(hb.block b hB).trans h⟩
def progV:Option CRow→Value
 |some r=> .agg #[.int .i64 r.num, .string r.name, .string r.routine, .int .i64 r.k0, .int .i64 r.k1, .int .i64 r.k2, .int .i64 r.k3]
 |none=> .agg #[.int .i64 0, .string ⟨#[]⟩, .string ⟨#[]⟩, .int .i64 0, .int .i64 0, .int .i64 0, .int .i64 0]
theorem row_at {k:Nat} (h:k<45): ∃r,tab[k]?=some r:=⟨_,List.getElem?_eq_getElem (by rw[tab_len];exact h)⟩
def Box7 (w:World) (b:Nat) (v0 v1 v2 v3 v4 v5 v6:Value):Prop:=w.cell? ⟨b,0,none⟩=some v0∧w.cell? ⟨b,1,none⟩=some v1∧w.cell? ⟨b,2,none⟩=some v2∧w.cell? ⟨b,3,none⟩=some v3∧w.cell? ⟨b,4,none⟩=some v4∧w.cell? ⟨b,5,none⟩=some v5∧w.cell? ⟨b,6,none⟩=some v6∧ ∀o,w.frozen? ⟨b,o,none⟩=false
theorem Box7.new (w:World) (n:Nat) (h:n=w.heap.size) (t:TypeId) (v0 v1 v2 v3 v4 v5 v6:Value):Box7 (w.alloc (.cells #[v0,v1,v2,v3,v4,v5,v6] t)) n v0 v1 v2 v3 v4 v5 v6:=
 ⟨World.cell?_alloc_at _ _ _ _ h,World.cell?_alloc_at _ _ _ _ h,World.cell?_alloc_at _ _ _ _ h,World.cell?_alloc_at _ _ _ _ h,World.cell?_alloc_at _ _ _ _ h,World.cell?_alloc_at _ _ _ _ h,World.cell?_alloc_at _ _ _ _ h,fun _=>World.frozen?_alloc_at _ _ _ _ h⟩
theorem Box7.below {w w':World} {b B:Nat} {v0 v1 v2 v3 v4 v5 v6:Value} (h:Box7 w b v0 v1 v2 v3 v4 v5 v6) (hb:Below B w w') (hB:b<B):Box7 w' b v0 v1 v2 v3 v4 v5 v6:=by
 obtain ⟨h0,h1,h2,h3,h4,h5,h6,h7⟩:=h
 exact ⟨(hb.cell (p:=⟨b,0,none⟩) hB).trans h0,(hb.cell (p:=⟨b,1,none⟩) hB).trans h1,(hb.cell (p:=⟨b,2,none⟩) hB).trans h2,(hb.cell (p:=⟨b,3,none⟩) hB).trans h3,(hb.cell (p:=⟨b,4,none⟩) hB).trans h4,(hb.cell (p:=⟨b,5,none⟩) hB).trans h5,(hb.cell (p:=⟨b,6,none⟩) hB).trans h6,fun o=>(hb.frozen (p:=⟨b,o,none⟩) hB).trans (h7 o)⟩
def numOf:Option CRow→Int
 |some r=>r.num
 |none=>0
set_option maxHeartbeats 2000000 in
theorem num_any (s:ByteArray) (w:World):Calls Tryz.prog 37 #[.string s] w fun e w'=>e= .returned (.tuple #[.int .i64 (numOf (ofName s tab)), .bool (ofName s tab).isSome])∧Below w.heap.size w w':=by
 obtain ⟨o,ho⟩: ∃o,o=ofName s tab:=⟨_,rfl⟩
 rw[←ho]
 have HO:=Lib.hid ho
 clear ho
 go_enter Tryz.func37,Tryz.ntmps37
 go_wp2_with fail
 refine (table_any _).mono ?_
 rintro e w2 ⟨b,rfl,hb1,hb2,hT,hbw⟩
 have HT:=Lib.hid hT
 clear hT
 go_wp2
 go_loopw [8] (fun i wr=> ∃k:Nat,k≤45∧i= .int .i64 k∧Below w2.heap.size w2 wr∧Hid (∀j x,j<k→tab[j]?=some x→(x.name.toList==s.toList)=false)) (fun i _=>45 - (intOf i).toNat)
 case atStart=>exact ⟨0,by omega,rfl,Below.refl _ _,Lib.hid (fun j x hj=>by omega)⟩
 case round=>
  obtain ⟨k,hk,rfl,hb,HN⟩:=hrel
  have hsz:=hb.size
  have hwsz:=hbw.size
  have hlb:b<wr.heap.size:=by omega
  by_cases hlt:k<45
  ·obtain ⟨r,hr⟩:=row_at hlt
   have hP:=HT.out.below hb hb2
   have c0:wr.cell? ⟨b,k*7,none⟩=some (.int .i64 r.num):=hP.cell hr (j:=0) rfl
   have c1:wr.cell? ⟨b,k*7+1,none⟩=some (.string r.name):=hP.cell hr (j:=1) rfl
   have c2:wr.cell? ⟨b,k*7+2,none⟩=some (.string r.routine):=hP.cell hr (j:=2) rfl
   have c3:wr.cell? ⟨b,k*7+3,none⟩=some (.int .i64 r.k0):=hP.cell hr (j:=3) rfl
   have c4:wr.cell? ⟨b,k*7+4,none⟩=some (.int .i64 r.k1):=hP.cell hr (j:=4) rfl
   have c5:wr.cell? ⟨b,k*7+5,none⟩=some (.int .i64 r.k2):=hP.cell hr (j:=5) rfl
   have c6:wr.cell? ⟨b,k*7+6,none⟩=some (.int .i64 r.k3):=hP.cell hr (j:=6) rfl
   have HRr:=Lib.hid hr
   clear hP hr
   by_cases he:(r.name.toList==s.toList)=true
   ·have hof:=ofName_take HN.out HRr.out he
    rw[←HO.out] at hof
    have HF:=Lib.hid hof
    clear hof
    go_wp2
    go_ret2
    rw[HF.out]
    exact ⟨rfl,(hbw.trans (hb.mono (by omega))).alloc (by omega) _⟩
   ·have he':(r.name.toList==s.toList)=false:=by simpa using he
    clear he
    have HE:=Lib.hid he'
    go_wp2
    go_roundw
    case rel=>
     refine ⟨k+1,by omega,by go_num,hb.alloc (by omega) _,Lib.hid fun j x hj hx=>?_⟩
     by_cases e:j=k
     ·subst e
      rw[HRr.out] at hx
      cases hx
      exact HE.out
     ·exact HN.out j x (by omega) hx
    case measure=>simp[intOf];omega
  ·obtain rfl:k=45:=by omega
   have hof:o=none:=by rw[HO.out];exact ofName_none (by rw[tab_len];exact HN.out)
   subst hof
   go_wp2
   go_ret2
   exact ⟨rfl,hbw.trans (hb.mono (by omega))⟩
def Box8 (w:World) (b:Nat) (v0 v1 v2 v3 v4 v5 v6 v7:Value):Prop:=w.cell? ⟨b,0,none⟩=some v0∧w.cell? ⟨b,1,none⟩=some v1∧w.cell? ⟨b,2,none⟩=some v2∧w.cell? ⟨b,3,none⟩=some v3∧w.cell? ⟨b,4,none⟩=some v4∧w.cell? ⟨b,5,none⟩=some v5∧w.cell? ⟨b,6,none⟩=some v6∧w.cell? ⟨b,7,none⟩=some v7∧ ∀o,w.frozen? ⟨b,o,none⟩=false
theorem Box8.new (w:World) (n:Nat) (h:n=w.heap.size) (t:TypeId) (v0 v1 v2 v3 v4 v5 v6 v7:Value):Box8 (w.alloc (.cells #[v0,v1,v2,v3,v4,v5,v6,v7] t)) n v0 v1 v2 v3 v4 v5 v6 v7:=
 ⟨World.cell?_alloc_at _ _ _ _ h,World.cell?_alloc_at _ _ _ _ h,World.cell?_alloc_at _ _ _ _ h,World.cell?_alloc_at _ _ _ _ h,World.cell?_alloc_at _ _ _ _ h,World.cell?_alloc_at _ _ _ _ h,World.cell?_alloc_at _ _ _ _ h,World.cell?_alloc_at _ _ _ _ h,fun _=>World.frozen?_alloc_at _ _ _ _ h⟩
theorem Box8.below {w w':World} {b B:Nat} {v0 v1 v2 v3 v4 v5 v6 v7:Value} (h:Box8 w b v0 v1 v2 v3 v4 v5 v6 v7) (hb:Below B w w') (hB:b<B):Box8 w' b v0 v1 v2 v3 v4 v5 v6 v7:=by
 obtain ⟨h0,h1,h2,h3,h4,h5,h6,h7,h8⟩:=h
 exact ⟨(hb.cell (p:=⟨b,0,none⟩) hB).trans h0,(hb.cell (p:=⟨b,1,none⟩) hB).trans h1,(hb.cell (p:=⟨b,2,none⟩) hB).trans h2,(hb.cell (p:=⟨b,3,none⟩) hB).trans h3,(hb.cell (p:=⟨b,4,none⟩) hB).trans h4,(hb.cell (p:=⟨b,5,none⟩) hB).trans h5,(hb.cell (p:=⟨b,6,none⟩) hB).trans h6,(hb.cell (p:=⟨b,7,none⟩) hB).trans h7,fun o=>(hb.frozen (p:=⟨b,o,none⟩) hB).trans (h8 o)⟩
end Go.Proofs.YtaangaogmnlljaaGreatDoor.PosTab
namespace Go.Proofs.YtaangaogmnlljaaGreatDoor.PosTab
open Go.RowKit Errs
theorem lock_row:ofName ⟨#[109,117,116,101,120,32,108,111,99,107]⟩ tab=some ⟨12,⟨#[109,117,116,101,120,32,108,111,99,107]⟩,⟨#[99,109,108,111,99,107]⟩,18,1,0,0,0⟩:=by kernel_rfl
set_option maxHeartbeats 1000000 in
theorem awake_true (w:World) (hd:Door w):Calls Tryz.prog 12 #[] w fun e w'=>e= .returned (.bool true)∧Below w.heap.size w w':=by
 have HN:=Lib.hid (num_any ⟨#[109,117,116,101,120,32,108,111,99,107]⟩ w)
 rw[lock_row] at HN
 have HD:=Lib.hid hd
 clear hd
 go_enter Tryz.func12,Tryz.ntmps12
 go_wp2_with fail
 refine HN.out.mono ?_
 rintro e w1 ⟨rfl,hb1⟩
 simp only[numOf,Option.isSome_some]
 go_wp2_with fail
 refine (problem_err 13 16 _ (by decide)).mono ?_
 rintro e w2 ⟨v,rfl,hv,hb2⟩
 have HV:=Lib.hid hv
 obtain ⟨vt,vx,rfl⟩:=hv.form
 clear hv
 go_wp2_with fail
 refine (no_any posixS 13 8 _).mono ?_
 rintro e w3 ⟨f,rfl,hf,hb3⟩
 have hs1:=hb1.size
 have hs2:=hb2.size
 have hs3:=hb3.size
 have hp:=door_pos HD.out
 have D3:Door w3:=((HD.out.below hb1 hp).below hb2 (by omega)).below hb3 (by omega)
 have HS:=Lib.hid (same_true _ f [(posixS,13)] 8 w3 (HV.out.below hb3) hf D3 (by decide) (by decide) (by decide))
 have hk:kindOf 16=8:=rfl
 clear hf D3 hk
 go_wp2_with fail
 refine HS.out.mono ?_
 rintro e w4 ⟨rfl,hb4⟩
 go_wp2_with fail
 refine (problem_ok 13 _).mono ?_
 rintro e w5 ⟨rfl,rfl⟩
 go_wp2
 go_ret
 exact ⟨rfl,((hb1.trans (hb2.mono hs1)).trans (hb3.mono (by omega))).trans (hb4.mono (by omega))⟩
end Go.Proofs.YtaangaogmnlljaaGreatDoor.PosTab
namespace Go.Proofs.YtaangaogmnlljaaGreatDoor.PosTab
open Go.RowKit
set_option maxHeartbeats 2000000 in
theorem of_any (n:Int) (w:World):Calls Tryz.prog 68 #[.int .i64 n] w fun e w'=>e= .returned (.tuple #[progV (ofNum n tab), .bool (ofNum n tab).isSome])∧Below w.heap.size w w':=by
 obtain ⟨o,ho⟩: ∃o,o=ofNum n tab:=⟨_,rfl⟩
 rw[←ho]
 have HO:=Lib.hid ho
 clear ho
 go_enter Tryz.func68,Tryz.ntmps68
 go_wp2_with fail
 refine (table_any _).mono ?_
 rintro e w2 ⟨b,rfl,hb1,hb2,hT,hbl⟩
 have HT:=Lib.hid hT
 have HR:=Lib.hid (Box7.below (Box7.new w _ rfl 170 (.int .i64 0) (.string ⟨#[]⟩) (.string ⟨#[]⟩) (.int .i64 0) (.int .i64 0) (.int .i64 0) (.int .i64 0)) hbl (by simp))
 have hbw:Below w.heap.size w w2:=((Below.refl w.heap.size w).alloc (Nat.le_refl _) _).trans (hbl.mono (by simp))
 simp at hb1
 clear hT hbl
 go_wp2
 go_loopw [8] (fun i wr=> ∃k:Nat,k≤45∧i= .int .i64 k∧Below w2.heap.size w2 wr∧Hid (∀j x,j<k→tab[j]?=some x→x.num≠n)) (fun i _=>45 - (intOf i).toNat)
 case atStart=>exact ⟨0,by omega,rfl,Below.refl _ _,Lib.hid (fun j x hj=>by omega)⟩
 case round=>
  obtain ⟨k,hk,rfl,hb,HN⟩:=hrel
  have hsz:=hb.size
  have hlR:w.heap.size<wr.heap.size:=by omega
  have hlb:b<wr.heap.size:=by omega
  by_cases hlt:k<45
  ·obtain ⟨r,hr⟩:=row_at hlt
   have hP:=HT.out.below hb hb2
   have c0:wr.cell? ⟨b,k*7,none⟩=some (.int .i64 r.num):=hP.cell hr (j:=0) rfl
   have c1:wr.cell? ⟨b,k*7+1,none⟩=some (.string r.name):=hP.cell hr (j:=1) rfl
   have c2:wr.cell? ⟨b,k*7+2,none⟩=some (.string r.routine):=hP.cell hr (j:=2) rfl
   have c3:wr.cell? ⟨b,k*7+3,none⟩=some (.int .i64 r.k0):=hP.cell hr (j:=3) rfl
   have c4:wr.cell? ⟨b,k*7+4,none⟩=some (.int .i64 r.k1):=hP.cell hr (j:=4) rfl
   have c5:wr.cell? ⟨b,k*7+5,none⟩=some (.int .i64 r.k2):=hP.cell hr (j:=5) rfl
   have c6:wr.cell? ⟨b,k*7+6,none⟩=some (.int .i64 r.k3):=hP.cell hr (j:=6) rfl
   have HRr:=Lib.hid hr
   clear hP hr
   by_cases he:(r.num==n)=true
   ·have hn:r.num=n:=by simpa using he
    have hof:=ofNum_take HN.out HRr.out hn
    rw[←HO.out] at hof
    obtain ⟨g0,g1,g2,g3,g4,g5,g6,g7⟩:=HR.out.below hb (by omega)
    have HF:=Lib.hid hof
    clear hof hn
    go_wp2
    refine bodyPost_ret (v:= .tuple #[.agg #[.int .i64 r.num, .string r.name, .string r.routine, .int .i64 r.k0, .int .i64 r.k1, .int .i64 r.k2, .int .i64 r.k3], .bool true]) (by simp[results,Tryz.results68,go_sem,g0,g1,g2,g3,g4,g5,g6,hlR]) rfl ?_
    rw[HF.out]
    refine ⟨rfl,?_⟩
    have hB0:=hbw.trans (hb.mono (by omega))
    refine Below.alloc ?_ (by simp;omega) _
    iterate 7 (refine Below.setCell ?_ (by exact Nat.le_refl _) _)
    exact hB0
   ·have he':(r.num==n)=false:=by simpa using he
    have hn:r.num≠n:=by simpa using he'
    clear he
    go_wp2
    go_roundw
    case rel=>
     refine ⟨k+1,by omega,by go_num,hb.alloc (by omega) _,Lib.hid fun j x hj hx=>?_⟩
     by_cases e:j=k
     ·subst e
      rw[HRr.out] at hx
      cases hx
      exact hn
     ·exact HN.out j x (by omega) hx
    case measure=>simp[intOf];omega
  ·obtain rfl:k=45:=by omega
   have hof:o=none:=by rw[HO.out];exact ofNum_none (by rw[tab_len];exact HN.out)
   subst hof
   obtain ⟨g0,g1,g2,g3,g4,g5,g6,g7⟩:=HR.out.below hb (by omega)
   go_wp2
   refine bodyPost_ret (v:= .tuple #[.agg #[.int .i64 0, .string ⟨#[]⟩, .string ⟨#[]⟩, .int .i64 0, .int .i64 0, .int .i64 0, .int .i64 0], .bool false]) (by simp[results,Tryz.results68,go_sem,g0,g1,g2,g3,g4,g5,g6]) rfl ?_
   refine ⟨rfl,?_⟩
   have hB0:=hbw.trans (hb.mono (by omega))
   iterate 7 (refine Below.setCell ?_ (by exact Nat.le_refl _) _)
   exact hB0
theorem progV_form (o:Option CRow): ∃c0 c1 c2 k0 k1 k2 k3,progV o= .agg #[.int .i64 c0, .string c1, .string c2, .int .i64 k0, .int .i64 k1, .int .i64 k2, .int .i64 k3]:=by
 cases o with
 |none=>exact ⟨_,_,_,_,_,_,_,rfl⟩
 |some r=>exact ⟨_,_,_,_,_,_,_,rfl⟩
def kindsOf:Option CRow→Value
 |some r=> .agg #[.int .i64 r.k0, .int .i64 r.k1, .int .i64 r.k2, .int .i64 r.k3]
 |none=> .agg #[.int .i64 0, .int .i64 0, .int .i64 0, .int .i64 0]
set_option maxHeartbeats 2000000 in
theorem kinds_any (n:Int) (w:World):Calls Tryz.prog 24 #[.int .i64 n] w fun e w'=>e= .returned (.tuple #[kindsOf (ofNum n tab), .bool (ofNum n tab).isSome])∧Below w.heap.size w w':=by
 have H:=Lib.hid (fun W=>of_any n W)
 generalize ofNum n tab=o at H
 obtain ⟨kv,hkv⟩: ∃kv,kv=kindsOf o:=⟨_,rfl⟩
 obtain ⟨is,his⟩: ∃is,is=o.isSome:=⟨_,rfl⟩
 obtain ⟨c0,c1,c2,k0,k1,k2,k3,hp⟩:=progV_form o
 have hk:kindsOf o= .agg #[.int .i64 k0, .int .i64 k1, .int .i64 k2, .int .i64 k3]:=by
  cases o<;>cases hp<;>rfl
 rw[hk,←his]
 rw[hp,←his] at H
 clear hkv kv hp hk his
 go_enter Tryz.func24,Tryz.ntmps24
 go_wp2_with fail
 refine (H.out _).mono ?_
 rintro e w2 ⟨rfl,hb⟩
 have hb0:Below w.heap.size w w2:=((Below.refl w.heap.size w).alloc (Nat.le_refl _) _).trans (hb.mono (by simp))
 have hlR:w.heap.size<w2.heap.size:=by have:=hb.size;simp at this;omega
 have g0:w2.cell? ⟨w.heap.size,0,none⟩=some (.int .i64 0):=(hb.cell (p:=⟨w.heap.size,0,none⟩) (by simp)).trans (World.cell?_alloc_at _ _ _ _ rfl)
 have g1:w2.cell? ⟨w.heap.size,1,none⟩=some (.int .i64 0):=(hb.cell (p:=⟨w.heap.size,1,none⟩) (by simp)).trans (World.cell?_alloc_at _ _ _ _ rfl)
 have g2:w2.cell? ⟨w.heap.size,2,none⟩=some (.int .i64 0):=(hb.cell (p:=⟨w.heap.size,2,none⟩) (by simp)).trans (World.cell?_alloc_at _ _ _ _ rfl)
 have g3:w2.cell? ⟨w.heap.size,3,none⟩=some (.int .i64 0):=(hb.cell (p:=⟨w.heap.size,3,none⟩) (by simp)).trans (World.cell?_alloc_at _ _ _ _ rfl)
 have g4: ∀o,w2.frozen? ⟨w.heap.size,o,none⟩=false:=fun o=>(hb.frozen (p:=⟨w.heap.size,o,none⟩) (by simp)).trans (World.frozen?_alloc_at _ _ _ _ rfl)
 clear hb
 go_wp2
 refine bodyPost_ret (v:= .tuple #[.agg #[.int .i64 k0, .int .i64 k1, .int .i64 k2, .int .i64 k3], .bool is]) (by simp[results,Tryz.results24,go_sem,g0,g1,g2,g3,hlR]) rfl ?_
 refine ⟨rfl,?_⟩
 refine Below.alloc ?_ (by simp;omega) _
 iterate 4 (refine Below.setCell ?_ (by exact Nat.le_refl _) _)
 exact hb0
end Go.Proofs.YtaangaogmnlljaaGreatDoor.PosTab
