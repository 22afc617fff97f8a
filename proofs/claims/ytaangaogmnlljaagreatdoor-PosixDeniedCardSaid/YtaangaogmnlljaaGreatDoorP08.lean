/- Part 8 of what the proof stands on: KnMap, KnAlc, KnGet, KnTabB. -/
import Derived.IntWalk
import Derived.Deep.QuietTactic
import Derived.StillTailTactics
import Derived.Deep.RegionLaw
import Derived.Test.YtaangaogmnlljaaGreatDoorP02
import Derived.Test.YtaangaogmnlljaaGreatDoorP07
set_option linter.unusedVariables false
namespace Go.Proofs.YtaangaogmnlljaaGreatDoor.Kn
open Go.RowKit Asm
def rowT (m:Mem) (a n:Nat) (b:Bool):Bool:=decide (a+n≤m.ws.length)&& ((m.ws.drop a).take n).all fun x=>(x !=0)==b
theorem rowT_iff (m:Mem) (a n:Nat) (b:Bool):rowT m a n b=true↔a+n≤m.ws.length∧ ∀j,j<n→((m.ws.getD (a+j) 0 !=0)==b)=true:=by
 unfold rowT
 rw[Bool.and_eq_true,decide_eq_true_iff,List.all_eq_true]
 constructor
 ·rintro ⟨h1,h2⟩
  refine ⟨h1,fun j hj=>h2 _ ?_⟩
  rw[List.getD_eq_getElem?_getD,List.getElem?_eq_getElem (by omega)]
  rw[List.mem_iff_getElem]
  exact ⟨j,by simp;omega,by simp⟩
 ·rintro ⟨h1,h2⟩
  refine ⟨h1,fun x hx=>?_⟩
  rw[List.mem_iff_getElem] at hx
  obtain ⟨j,hj,rfl⟩:=hx
  have hj2:j<n:=by simp at hj;omega
  have:=h2 j hj2
  rw[List.getD_eq_getElem?_getD,List.getElem?_eq_getElem (by omega)] at this
  simpa using this
theorem free_row (m:Mem) (a n:Nat):m.free? a n=rowT m a n false:=by
 unfold Mem.free? rowT
 congr 2
 funext x
 by_cases hx:x=0<;>simp[hx,bne]
theorem all_row (m:Mem) (a n:Nat):m.all? a n=rowT m a n true:=by
 unfold Mem.all? rowT
 congr 2
 funext x
 by_cases hx:x=0<;>simp[hx]
def RowOut (w:World) (r:Bool) (e:Ending) (w':World):Prop:=match r with
 |true=>e= .returned .nilIface∧w=w'
 |false=>(∃v,e= .returned v∧Som v)∧Below w.heap.size w w'
set_option maxRecDepth 100000 in
set_option maxHeartbeats 1000000 in
theorem row_any {w:World} {X gc gw:Nat} {m:Mem} (h:MemP w X gc gw m) (a n:Nat) (b:Bool) (ha:a≤100000) (hn:n≤100000):
  Calls Tryz.prog 223 #[.pointer (some ⟨X,0,none⟩), .int .i64 a, .int .i64 n, .bool b] w (RowOut w (rowT m a n b)):=by
 obtain ⟨t,c,ho⟩:=h.obj
 obtain ⟨z,hz⟩: ∃z,z=m.hs.length:=⟨_,rfl⟩
 have hws:=h.ws
 have hlen:=h.ok.len
 have hmost:=h.ok.most
 have c0:w.cell? ⟨X,0,none⟩=some (.slice (some ⟨gc,0,none⟩) z z):=by rw[blk_cell ho,hz];rfl
 have c1:w.cell? ⟨X,1,none⟩=some (.slice (some ⟨gw,0,none⟩) z z):=by rw[blk_cell ho,hz,←hlen];rfl
 have HF:=Lib.hid (fun n k W=>memfail_any n k W)
 have haI:(a:Int)≤100000:=by omega
 have hnI:(n:Int)≤100000:=by omega
 have hzI:(z:Int)≤65536:=by omega
 by_cases hfit:a+n≤z
 ·have hfitI:(a:Int)+(n:Int)≤(z:Int):=by omega
  have HI:=rowT_iff m a n b
  rw[←hlen.trans hz.symm] at hfit
  have HWs:=Lib.hid hws
  have HLen:=Lib.hid hlen
  have HZ:=Lib.hid hz
  have HFit:=Lib.hid hfit
  have hr:=h.ok.w
  have HR:=Lib.hid hr
  have HI:=Lib.hid HI
  clear hws hlen hz hfit hmost hr h ho
  go_enter Tryz.func223,Tryz.ntmps223
  go_wp2_with fail
  go_loopw [9] (fun iv wr=> ∃i:Nat,i≤n∧iv= .int .i64 ((a+i:Nat):Int)∧Hid (∀j,j<i→((m.ws.getD (a+j) 0 !=0)==b)=true)∧wr=w) (fun iv _=>a+n - (intOf iv).toNat)
  case atStart=>exact ⟨0,by omega,rfl,Lib.hid (fun j hj=>absurd hj (by omega)),rfl⟩
  case round=>
   obtain ⟨i,hi,rfl,HA,rfl⟩:=hrel
   have hiI:(i:Int)≤(n:Int):=by omega
   by_cases hlt:i<n
   ·have hltI:((a+i:Nat):Int)<(a:Int)+(n:Int):=by omega
    have hzi:((a+i:Nat):Int)<(z:Int):=by omega
    have c2:wr.cell? ⟨gw,a+i,none⟩=some (.int .u8 (m.ws.getD (a+i) 0)):=by rw[blk_cell HWs.out];exact u8A_at (by have:=HFit.out;omega)
    by_cases hx:m.ws.getD (a+i) 0=0
    ·have ht:(m.ws.getD (a+i) 0 !=0)=false:=by rw[hx];rfl
     rw[hx] at c2
     cases b with
     |false=>
      go_wp2_with fail
      go_roundw
      case rel=>exact ⟨i+1,by omega,by go_num,Lib.hid (fun j hj=>by
       rcases Nat.lt_succ_iff_lt_or_eq.1 hj with h1|h1
       ·exact HA.out j h1
       ·rw[h1,ht];rfl),trivial⟩
      case measure=>simp[intOf];omega
     |true=>
      have hno:rowT m a n true=false:=Bool.eq_false_iff.2 fun hh=>by
       have:=(HI.out.1 hh).2 i hlt
       rw[ht] at this;cases this
      have HNo:=Lib.hid hno
      clear hno
      go_wp2_with fail
      refine (HF.out _ _ _).mono ?_
      rintro e w1 ⟨⟨ev,rfl,hev⟩,hb1⟩
      go_wp2
      go_ret
      rw[HNo.out]
      exact ⟨⟨_,rfl,hev⟩,hb1⟩
    ·have ht:(m.ws.getD (a+i) 0 !=0)=true:=bne_iff_ne.2 hx
     have HT:=Lib.hid ht
     generalize hxx:m.ws.getD (a+i) 0=x at c2 hx ht HT
     have HX:=Lib.hid hxx
     clear hxx
     clear ht
     have hx2:(x !=0)=true:=HT.out
     cases b with
     |true=>
      go_wp2_with fail
      go_roundw
      case rel=>exact ⟨i+1,by omega,by go_num,Lib.hid (fun j hj=>by
       rcases Nat.lt_succ_iff_lt_or_eq.1 hj with h1|h1
       ·exact HA.out j h1
       ·rw[h1,HX.out,HT.out];rfl),trivial⟩
      case measure=>simp[intOf];omega
     |false=>
      have hno:rowT m a n false=false:=Bool.eq_false_iff.2 fun hh=>by
       have:=(HI.out.1 hh).2 i hlt
       rw[HX.out,HT.out] at this;cases this
      have HNo:=Lib.hid hno
      clear hno
      go_wp2_with fail
      refine (HF.out _ _ _).mono ?_
      rintro e w1 ⟨⟨ev,rfl,hev⟩,hb1⟩
      go_wp2
      go_ret
      rw[HNo.out]
      exact ⟨⟨_,rfl,hev⟩,hb1⟩
   ·obtain rfl:i=n:=by omega
    have hyes:rowT m a i b=true:=HI.out.2 ⟨HFit.out,HA.out⟩
    have HYes:=Lib.hid hyes
    clear hyes
    go_wp2_with fail
    go_ret
    rw[HYes.out]
    exact ⟨rfl,rfl⟩
 ·have hfitI:(z:Int) - (a:Int)<(n:Int):=by omega
  have hno:rowT m a n b=false:=Bool.eq_false_iff.2 fun hh=>by have:=((rowT_iff m a n b).1 hh).1;omega
  have HNo:=Lib.hid hno
  clear hno hws hlen hz hfit hmost h ho
  go_enter Tryz.func223,Tryz.ntmps223
  go_wp2_with fail
  refine (HF.out _ _ _).mono ?_
  rintro e w1 ⟨⟨ev,rfl,hev⟩,hb1⟩
  go_wp2
  go_ret
  rw[HNo.out]
  exact ⟨⟨_,rfl,hev⟩,hb1⟩
theorem fillL_len (l:List Int) (a n:Nat) (v:Int) (h:a+n≤l.length):(fillL l a n v).length=l.length:=by simp[fillL];omega
theorem fillL_zero (l:List Int) (a:Nat) (v:Int):fillL l a 0 v=l:=by simp[fillL]
theorem fillL_succ (l:List Int) (a n:Nat) (v:Int) (h:a+n<l.length):(fillL l a n v).set (a+n) v=fillL l a (n+1) v:=by
 unfold fillL
 apply List.ext_getElem
 ·simp;omega
 ·intro i h1 h2
  have hi:i<l.length:=by simp at h2;omega
  rw[List.getElem_set]
  by_cases c0:a+n=i
  ·rw[if_pos c0,List.getElem_append_left (by simp;omega),List.getElem_append_right (by simp;omega)]
   simp
  ·rw[if_neg c0]
   by_cases c1:i<a
   ·rw[List.getElem_append_left (by simp;omega),List.getElem_append_left (by simp;omega),List.getElem_append_left (by simp;omega),List.getElem_append_left (by simp;omega)]
   ·by_cases c2:i<a+n
    ·rw[List.getElem_append_left (by simp;omega),List.getElem_append_right (by simp;omega),List.getElem_append_left (by simp;omega),List.getElem_append_right (by simp;omega)]
     simp
    ·rw[List.getElem_append_right (by simp;omega),List.getElem_append_right (by simp;omega)]
     simp
     congr 1
     omega
theorem fillL_mem {l:List Int} {a n:Nat} {v x:Int} (h:x∈fillL l a n v):x∈l∨x=v:=by
 unfold fillL at h
 rcases List.mem_append.1 h with h|h
 ·rcases List.mem_append.1 h with h|h
  ·exact Or.inl (List.mem_of_mem_take h)
  ·exact Or.inr (List.mem_replicate.1 h).2
 ·exact Or.inl (List.mem_of_mem_drop h)
theorem map_ok {m:Mem} (h:MemOk m) {a n:Nat} {wd:Int} (hw:wd=0∨wd=32∨wd=64) (hf:a+n≤m.ws.length):MemOk (m.map a n wd):=by
 have hl:=h.len
 have h1:(m.map a n wd).ws.length=m.ws.length:=fillL_len _ _ _ _ hf
 have h2:(m.map a n wd).hs.length=m.hs.length:=fillL_len _ _ _ _ (by rw[←hl];exact hf)
 refine ⟨by rw[h1,h2,hl],by rw[h2];exact h.one,by rw[h2];exact h.most,fun x hx=>?_,fun x hx=>?_⟩
 ·rcases fillL_mem hx with h3|h3
  ·exact h.w x h3
  ·rw[h3];exact hw
 ·rcases fillL_mem hx with h3|h3
  ·exact h.h x h3
  ·rw[h3];exact ⟨by decide,by decide⟩
theorem u8A_set (l:List Int) (i:Nat) (v:Int):(u8A l).setIfInBounds i (.int .u8 v)=u8A (l.set i v):=by
 apply Array.ext'
 simp[u8A,List.map_set]
theorem map_succ (m:Mem) (hl:m.ws.length=m.hs.length) (a i:Nat) (wd:Int) (h:a+i<m.ws.length):(⟨(m.map a i wd).ws.set (a+i) wd,(m.map a i wd).hs.set (a+i) 0⟩:Mem)=m.map a (i+1) wd:=by
 unfold Mem.map
 rw[fillL_succ _ _ _ _ h,fillL_succ _ _ _ _ (by rw[←hl];exact h)]
theorem map_zero (m:Mem) (a:Nat) (wd:Int):m.map a 0 wd=m:=by unfold Mem.map;rw[fillL_zero,fillL_zero]
theorem MemP.mapped {w:World} {X gc gw:Nat} {m:Mem} {a i:Nat} {wd:Int} (h:MemP w X gc gw (m.map a i wd)) (hl:m.ws.length=m.hs.length) (hw:wd=0∨wd=32∨wd=64) (hi:a+i<m.ws.length) (hm:MemOk m):
  MemP ((w.setCell ⟨gw,a+i,none⟩ (.int .u8 wd)).setCell ⟨gc,a+i,none⟩ (.int .u64 0)) X gc gw (m.map a (i+1) wd):=by
 obtain ⟨n1,n2,n3⟩:=h.ne
 obtain ⟨t,c',ho⟩:=h.obj
 have l1:(m.map a (i+1) wd).ws.length=(m.map a i wd).ws.length:=by rw[←map_succ m hl a i wd hi];simp
 have l2:(m.map a (i+1) wd).hs.length=(m.map a i wd).hs.length:=by rw[←map_succ m hl a i wd hi];simp
 refine ⟨map_ok hm hw (by omega),⟨t,c',?_⟩,?_,?_⟩
 ·rw[l1,l2]
  exact (set_other n1).trans ((set_other n2).trans ho)
 ·rw[set_block ((set_other n3).trans h.hs),u64A_set,←map_succ m hl a i wd hi]
 ·rw[set_other (fun e=>n3 e.symm),set_block h.ws,u8A_set,←map_succ m hl a i wd hi]
theorem MemP.there {w:World} {X gc gw:Nat} {m:Mem} (h:MemP w X gc gw m) (c:Int):MemP (w.setCell ⟨X,2,none⟩ (.int .i64 c)) X gc gw m:=by
 obtain ⟨n1,n2,n3⟩:=h.ne
 obtain ⟨t,c',ho⟩:=h.obj
 exact ⟨h.ok,⟨c,c',set_block ho _⟩,(set_other (fun e=>n1 e.symm)).trans h.hs,(set_other (fun e=>n2 e.symm)).trans h.ws⟩
def MapOut (w:World) (X gc gw:Nat) (r:Option Mem) (e:Ending) (w':World):Prop:=match r with
 |some m'=>e= .returned .nilIface∧MemP w' X gc gw m'∧Keeps (fun b=>b=X∨b=gc∨b=gw) w w'
 |none=>(∃v,e= .returned v∧Som v)∧Below w.heap.size w w'
set_option maxRecDepth 100000 in
set_option maxHeartbeats 2000000 in
theorem map32 {w:World} {X gc gw:Nat} {m:Mem} (h:MemP w X gc gw m) (a n:Nat) (hn1:1≤n) (ha:a≤100000) (hn:n≤100000):
  Calls Tryz.prog 166 #[.pointer (some ⟨X,0,none⟩), .int .i64 a, .int .i64 n, .int .i64 32] w (MapOut w X gc gw (if m.free? a n then some (m.map a n 32) else none)):=by
 have HRow:=Lib.hid (row_any h a n false ha hn)
 have hr:m.free? a n=rowT m a n false:=free_row m a n
 rw[hr]
 have HT:=Lib.hid ((rowT_iff m a n false).1)
 have HH:=Lib.hid h
 have HOk:=Lib.hid h.ok
 have hlen:=h.ok.len
 have hmost:=h.ok.most
 have HLen:=Lib.hid hlen
 have hn1I:1≤(n:Int):=by omega
 have haI:(a:Int)≤100000:=by omega
 have hnI:(n:Int)≤100000:=by omega
 cases hb:rowT m a n false with
 |false=>
  rw[hb] at HRow
  rw[if_neg (by decide)]
  clear hr HT hb hlen hmost h
  go_enter Tryz.func166,Tryz.ntmps166
  go_wp2_with fail
  refine HRow.out.mono ?_
  rintro e w1 ⟨⟨v,rfl,t,x,rfl⟩,hb1⟩
  go_wp2_with fail
  go_ret
  exact ⟨⟨_,rfl,t,x,rfl⟩,hb1⟩
 |true=>
  rw[hb] at HRow
  rw[if_pos rfl]
  have hfit:=(HT.out hb).1
  have HFit:=Lib.hid hfit
  obtain ⟨z,hz⟩: ∃z,z=m.hs.length:=⟨_,rfl⟩
  have hfitI:(a:Int)+(n:Int)≤(z:Int):=by omega
  have hzI:(z:Int)≤65536:=by omega
  have HZ:=Lib.hid hz
  have HWd:=Lib.hid (Or.inl rfl:(32:Int)=32∨(32:Int)=64)
  clear hr HT hb hlen hmost h hfit hz
  go_enter Tryz.func166,Tryz.ntmps166
  go_wp2_with fail
  refine HRow.out.mono ?_
  rintro e w1 ⟨rfl,rfl⟩
  go_wp2_with fail
  go_loopw [10] (fun iv wr=> ∃i:Nat,i≤n∧iv= .int .i64 ((a+i:Nat):Int)∧Hid (MemP wr X gc gw (m.map a i 32))∧Hid (Keeps (fun b=>b=X∨b=gc∨b=gw) w wr)) (fun iv _=>a+n - (intOf iv).toNat)
  case atStart=>exact ⟨0,by omega,rfl,Lib.hid (by rw[map_zero];exact HH.out),Lib.hid (Keeps.refl _ _)⟩
  case round=>
   obtain ⟨i,hi,rfl,HM,HK⟩:=hrel
   have hiI:(i:Int)≤(n:Int):=by omega
   obtain ⟨n1,n2,n3⟩:=HM.out.ne
   obtain ⟨l1,l2,l3⟩:=HM.out.lt
   obtain ⟨t,c,ho⟩:=HM.out.obj
   have e1:(m.map a i 32).ws.length=z:=by rw[HZ.out,←HLen.out];exact fillL_len _ _ _ _ (by have:=HFit.out;omega)
   have e2:(m.map a i 32).hs.length=z:=by rw[←HM.out.ok.len];exact e1
   rw[e1,e2] at ho
   have c0:wr.cell? ⟨X,0,none⟩=some (.slice (some ⟨gc,0,none⟩) z z):=by rw[blk_cell ho];rfl
   have c1:wr.cell? ⟨X,1,none⟩=some (.slice (some ⟨gw,0,none⟩) z z):=by rw[blk_cell ho];rfl
   have c2:wr.cell? ⟨X,2,none⟩=some (.int .i64 t):=by rw[blk_cell ho];rfl
   have f2:wr.frozen? ⟨X,2,none⟩=false:=blk_frozen ho _
   by_cases hlt:i<n
   ·have hltI:((a+i:Nat):Int)<(a:Int)+(n:Int):=by omega
    have hzi:((a+i:Nat):Int)<(z:Int):=by omega
    have hzn:a+i<z:=by omega
    have g1: ∃u,wr.cell? ⟨gw,a+i,none⟩=some u:=⟨_,by rw[blk_cell HM.out.ws];exact u8A_at (by rw[e1];exact hzn)⟩
    have g2: ∃u,wr.cell? ⟨gc,a+i,none⟩=some u:=⟨_,by rw[blk_cell HM.out.hs];exact u64A_at (by rw[e2];exact hzn)⟩
    obtain ⟨u1,g1⟩:=g1
    obtain ⟨u2,g2⟩:=g2
    have f3:wr.frozen? ⟨gw,a+i,none⟩=false:=blk_frozen HM.out.ws _
    have f4:wr.frozen? ⟨gc,a+i,none⟩=false:=blk_frozen HM.out.hs _
    have HN:=Lib.hid (HM.out.mapped HLen.out (by first|exact Or.inl rfl|exact Or.inr (Or.inl rfl) |exact Or.inr (Or.inr rfl)) (by have:=HFit.out;omega) HOk.out)
    have HK2:=Lib.hid ((HK.out.setCell (p:=⟨gw,a+i,none⟩) (Or.inr (Or.inr rfl)) (.int .u8 32)).setCell (p:=⟨gc,a+i,none⟩) (Or.inr (Or.inl rfl)) (.int .u64 0))
    clear ho e1 e2 f2
    go_wp2_with fail
    go_roundw
    case rel=>exact ⟨i+1,by omega,by go_num,HN,HK2⟩
    case measure=>simp[intOf];omega
   ·obtain rfl:i=n:=by omega
    have HN:=Lib.hid (HM.out.there (wrap64 (t+(i:Int))))
    have HK2:=Lib.hid (HK.out.setCell (p:=⟨X,2,none⟩) (Or.inl rfl) (.int .i64 (wrap64 (t+(i:Int)))))
    clear ho e1 e2
    go_wp2_with fail
    go_ret
    exact ⟨rfl,HN.out,HK2.out⟩
set_option maxRecDepth 100000 in
set_option maxHeartbeats 2000000 in
theorem map64 {w:World} {X gc gw:Nat} {m:Mem} (h:MemP w X gc gw m) (a n:Nat) (hn1:1≤n) (ha:a≤100000) (hn:n≤100000):
  Calls Tryz.prog 166 #[.pointer (some ⟨X,0,none⟩), .int .i64 a, .int .i64 n, .int .i64 64] w (MapOut w X gc gw (if m.free? a n then some (m.map a n 64) else none)):=by
 have HRow:=Lib.hid (row_any h a n false ha hn)
 have hr:m.free? a n=rowT m a n false:=free_row m a n
 rw[hr]
 have HT:=Lib.hid ((rowT_iff m a n false).1)
 have HH:=Lib.hid h
 have HOk:=Lib.hid h.ok
 have hlen:=h.ok.len
 have hmost:=h.ok.most
 have HLen:=Lib.hid hlen
 have hn1I:1≤(n:Int):=by omega
 have haI:(a:Int)≤100000:=by omega
 have hnI:(n:Int)≤100000:=by omega
 cases hb:rowT m a n false with
 |false=>
  rw[hb] at HRow
  rw[if_neg (by decide)]
  clear hr HT hb hlen hmost h
  go_enter Tryz.func166,Tryz.ntmps166
  go_wp2_with fail
  refine HRow.out.mono ?_
  rintro e w1 ⟨⟨v,rfl,t,x,rfl⟩,hb1⟩
  go_wp2_with fail
  go_ret
  exact ⟨⟨_,rfl,t,x,rfl⟩,hb1⟩
 |true=>
  rw[hb] at HRow
  rw[if_pos rfl]
  have hfit:=(HT.out hb).1
  have HFit:=Lib.hid hfit
  obtain ⟨z,hz⟩: ∃z,z=m.hs.length:=⟨_,rfl⟩
  have hfitI:(a:Int)+(n:Int)≤(z:Int):=by omega
  have hzI:(z:Int)≤65536:=by omega
  have HZ:=Lib.hid hz
  have HWd:=Lib.hid (Or.inr rfl:(64:Int)=32∨(64:Int)=64)
  clear hr HT hb hlen hmost h hfit hz
  go_enter Tryz.func166,Tryz.ntmps166
  go_wp2_with fail
  refine HRow.out.mono ?_
  rintro e w1 ⟨rfl,rfl⟩
  go_wp2_with fail
  go_loopw [10] (fun iv wr=> ∃i:Nat,i≤n∧iv= .int .i64 ((a+i:Nat):Int)∧Hid (MemP wr X gc gw (m.map a i 64))∧Hid (Keeps (fun b=>b=X∨b=gc∨b=gw) w wr)) (fun iv _=>a+n - (intOf iv).toNat)
  case atStart=>exact ⟨0,by omega,rfl,Lib.hid (by rw[map_zero];exact HH.out),Lib.hid (Keeps.refl _ _)⟩
  case round=>
   obtain ⟨i,hi,rfl,HM,HK⟩:=hrel
   have hiI:(i:Int)≤(n:Int):=by omega
   obtain ⟨n1,n2,n3⟩:=HM.out.ne
   obtain ⟨l1,l2,l3⟩:=HM.out.lt
   obtain ⟨t,c,ho⟩:=HM.out.obj
   have e1:(m.map a i 64).ws.length=z:=by rw[HZ.out,←HLen.out];exact fillL_len _ _ _ _ (by have:=HFit.out;omega)
   have e2:(m.map a i 64).hs.length=z:=by rw[←HM.out.ok.len];exact e1
   rw[e1,e2] at ho
   have c0:wr.cell? ⟨X,0,none⟩=some (.slice (some ⟨gc,0,none⟩) z z):=by rw[blk_cell ho];rfl
   have c1:wr.cell? ⟨X,1,none⟩=some (.slice (some ⟨gw,0,none⟩) z z):=by rw[blk_cell ho];rfl
   have c2:wr.cell? ⟨X,2,none⟩=some (.int .i64 t):=by rw[blk_cell ho];rfl
   have f2:wr.frozen? ⟨X,2,none⟩=false:=blk_frozen ho _
   by_cases hlt:i<n
   ·have hltI:((a+i:Nat):Int)<(a:Int)+(n:Int):=by omega
    have hzi:((a+i:Nat):Int)<(z:Int):=by omega
    have hzn:a+i<z:=by omega
    have g1: ∃u,wr.cell? ⟨gw,a+i,none⟩=some u:=⟨_,by rw[blk_cell HM.out.ws];exact u8A_at (by rw[e1];exact hzn)⟩
    have g2: ∃u,wr.cell? ⟨gc,a+i,none⟩=some u:=⟨_,by rw[blk_cell HM.out.hs];exact u64A_at (by rw[e2];exact hzn)⟩
    obtain ⟨u1,g1⟩:=g1
    obtain ⟨u2,g2⟩:=g2
    have f3:wr.frozen? ⟨gw,a+i,none⟩=false:=blk_frozen HM.out.ws _
    have f4:wr.frozen? ⟨gc,a+i,none⟩=false:=blk_frozen HM.out.hs _
    have HN:=Lib.hid (HM.out.mapped HLen.out (by first|exact Or.inl rfl|exact Or.inr (Or.inl rfl) |exact Or.inr (Or.inr rfl)) (by have:=HFit.out;omega) HOk.out)
    have HK2:=Lib.hid ((HK.out.setCell (p:=⟨gw,a+i,none⟩) (Or.inr (Or.inr rfl)) (.int .u8 64)).setCell (p:=⟨gc,a+i,none⟩) (Or.inr (Or.inl rfl)) (.int .u64 0))
    clear ho e1 e2 f2
    go_wp2_with fail
    go_roundw
    case rel=>exact ⟨i+1,by omega,by go_num,HN,HK2⟩
    case measure=>simp[intOf];omega
   ·obtain rfl:i=n:=by omega
    have HN:=Lib.hid (HM.out.there (wrap64 (t+(i:Int))))
    have HK2:=Lib.hid (HK.out.setCell (p:=⟨X,2,none⟩) (Or.inl rfl) (.int .i64 (wrap64 (t+(i:Int)))))
    clear ho e1 e2
    go_wp2_with fail
    go_ret
    exact ⟨rfl,HN.out,HK2.out⟩
theorem map_any {w:World} {X gc gw:Nat} {m:Mem} (h:MemP w X gc gw m) (a n:Nat) (wd:Int) (hwd:wd=32∨wd=64) (hn1:1≤n) (ha:a≤100000) (hn:n≤100000):
  Calls Tryz.prog 166 #[.pointer (some ⟨X,0,none⟩), .int .i64 a, .int .i64 n, .int .i64 wd] w (MapOut w X gc gw (if m.free? a n then some (m.map a n wd) else none)):=by
 rcases hwd with rfl|rfl
 ·exact map32 h a n hn1 ha hn
 ·exact map64 h a n hn1 ha hn
set_option maxRecDepth 100000 in
set_option maxHeartbeats 2000000 in
theorem unmap_any {w:World} {X gc gw:Nat} {m:Mem} (h:MemP w X gc gw m) (a n:Nat) (hn1:1≤n) (ha:a≤100000) (hn:n≤100000):
  Calls Tryz.prog 227 #[.pointer (some ⟨X,0,none⟩), .int .i64 a, .int .i64 n] w (MapOut w X gc gw (if m.all? a n then some (m.map a n 0) else none)):=by
 have HRow:=Lib.hid (row_any h a n true ha hn)
 have hr:m.all? a n=rowT m a n true:=all_row m a n
 rw[hr]
 have HT:=Lib.hid ((rowT_iff m a n true).1)
 have HH:=Lib.hid h
 have HOk:=Lib.hid h.ok
 have hlen:=h.ok.len
 have hmost:=h.ok.most
 have HLen:=Lib.hid hlen
 have hn1I:1≤(n:Int):=by omega
 have haI:(a:Int)≤100000:=by omega
 have hnI:(n:Int)≤100000:=by omega
 cases hb:rowT m a n true with
 |false=>
  rw[hb] at HRow
  rw[if_neg (by decide)]
  clear hr HT hb hlen hmost h
  go_enter Tryz.func227,Tryz.ntmps227
  go_wp2_with fail
  refine HRow.out.mono ?_
  rintro e w1 ⟨⟨v,rfl,t,x,rfl⟩,hb1⟩
  go_wp2_with fail
  go_ret
  exact ⟨⟨_,rfl,t,x,rfl⟩,hb1⟩
 |true=>
  rw[hb] at HRow
  rw[if_pos rfl]
  have hfit:=(HT.out hb).1
  have HFit:=Lib.hid hfit
  obtain ⟨z,hz⟩: ∃z,z=m.hs.length:=⟨_,rfl⟩
  have hfitI:(a:Int)+(n:Int)≤(z:Int):=by omega
  have hzI:(z:Int)≤65536:=by omega
  have HZ:=Lib.hid hz
  have HWd:=Lib.hid (rfl:(0:Int)=0)
  clear hr HT hb hlen hmost h hfit hz
  go_enter Tryz.func227,Tryz.ntmps227
  go_wp2_with fail
  refine HRow.out.mono ?_
  rintro e w1 ⟨rfl,rfl⟩
  go_wp2_with fail
  go_loopw [8] (fun iv wr=> ∃i:Nat,i≤n∧iv= .int .i64 ((a+i:Nat):Int)∧Hid (MemP wr X gc gw (m.map a i 0))∧Hid (Keeps (fun b=>b=X∨b=gc∨b=gw) w wr)) (fun iv _=>a+n - (intOf iv).toNat)
  case atStart=>exact ⟨0,by omega,rfl,Lib.hid (by rw[map_zero];exact HH.out),Lib.hid (Keeps.refl _ _)⟩
  case round=>
   obtain ⟨i,hi,rfl,HM,HK⟩:=hrel
   have hiI:(i:Int)≤(n:Int):=by omega
   obtain ⟨n1,n2,n3⟩:=HM.out.ne
   obtain ⟨l1,l2,l3⟩:=HM.out.lt
   obtain ⟨t,c,ho⟩:=HM.out.obj
   have e1:(m.map a i 0).ws.length=z:=by rw[HZ.out,←HLen.out];exact fillL_len _ _ _ _ (by have:=HFit.out;omega)
   have e2:(m.map a i 0).hs.length=z:=by rw[←HM.out.ok.len];exact e1
   rw[e1,e2] at ho
   have c0:wr.cell? ⟨X,0,none⟩=some (.slice (some ⟨gc,0,none⟩) z z):=by rw[blk_cell ho];rfl
   have c1:wr.cell? ⟨X,1,none⟩=some (.slice (some ⟨gw,0,none⟩) z z):=by rw[blk_cell ho];rfl
   have c2:wr.cell? ⟨X,2,none⟩=some (.int .i64 t):=by rw[blk_cell ho];rfl
   have f2:wr.frozen? ⟨X,2,none⟩=false:=blk_frozen ho _
   by_cases hlt:i<n
   ·have hltI:((a+i:Nat):Int)<(a:Int)+(n:Int):=by omega
    have hzi:((a+i:Nat):Int)<(z:Int):=by omega
    have hzn:a+i<z:=by omega
    have g1: ∃u,wr.cell? ⟨gw,a+i,none⟩=some u:=⟨_,by rw[blk_cell HM.out.ws];exact u8A_at (by rw[e1];exact hzn)⟩
    have g2: ∃u,wr.cell? ⟨gc,a+i,none⟩=some u:=⟨_,by rw[blk_cell HM.out.hs];exact u64A_at (by rw[e2];exact hzn)⟩
    obtain ⟨u1,g1⟩:=g1
    obtain ⟨u2,g2⟩:=g2
    have f3:wr.frozen? ⟨gw,a+i,none⟩=false:=blk_frozen HM.out.ws _
    have f4:wr.frozen? ⟨gc,a+i,none⟩=false:=blk_frozen HM.out.hs _
    have HN:=Lib.hid (HM.out.mapped HLen.out (by first|exact Or.inl rfl|exact Or.inr (Or.inl rfl) |exact Or.inr (Or.inr rfl)) (by have:=HFit.out;omega) HOk.out)
    have HK2:=Lib.hid ((HK.out.setCell (p:=⟨gw,a+i,none⟩) (Or.inr (Or.inr rfl)) (.int .u8 0)).setCell (p:=⟨gc,a+i,none⟩) (Or.inr (Or.inl rfl)) (.int .u64 0))
    clear ho e1 e2 f2
    go_wp2_with fail
    go_roundw
    case rel=>exact ⟨i+1,by omega,by go_num,HN,HK2⟩
    case measure=>simp[intOf];omega
   ·obtain rfl:i=n:=by omega
    have HN:=Lib.hid (HM.out.there (wrap64 (t - (i:Int))))
    have HK2:=Lib.hid (HK.out.setCell (p:=⟨X,2,none⟩) (Or.inl rfl) (.int .i64 (wrap64 (t - (i:Int)))))
    clear ho e1 e2
    go_wp2_with fail
    go_ret
    exact ⟨rfl,HN.out,HK2.out⟩
end Go.Proofs.YtaangaogmnlljaaGreatDoor.Kn
namespace Go.Proofs.YtaangaogmnlljaaGreatDoor.Kn
open Go.RowKit Asm
theorem own_at {w:World} {base:Nat} {e:TypeId} {size n:Nat} {v:Value} {xs:List Value} (h:w.ownsRow base e size v n xs) (h0:0<n):
  ∃g c,v= .slice (some ⟨g,0,none⟩) n c∧base≤g∧g<w.heap.size∧n≤c∧(∀k,k<n*size→w.cell? ⟨g,k,none⟩=xs[k]?)∧ ∀o,w.frozen? ⟨g,o,none⟩=false:=by
 rcases h.2 with ⟨_,h2⟩ |⟨g,cap,cur,hv,hg,hh,hn,_⟩
 ·omega
 ·rw[hv] at h
  exact ⟨g,cap,hv,hg,(h.lt g rfl).2,hn,fun k hk=>h.cellAt k hk,fun o=>h.frozenAt o⟩
theorem below_drewN (w:World) (q:Nat):Below w.heap.size w (w.drewN q):=⟨rfl,rfl,rfl,Nat.le_refl _,fun _ _=>rfl⟩
def blk3 (b:Blk):List Value:= [.int .i64 b.pos, .int .i64 b.n, .int .i64 b.w]
def blkC (l:List Blk):List Value:=l.flatMap blk3
theorem blkC_at {l:List Blk} {i:Nat} (h:i<l.length):(blkC l)[i*3]?=some (.int .i64 (bAt l i).pos)∧(blkC l)[i*3+1]?=some (.int .i64 (bAt l i).n)∧(blkC l)[i*3+2]?=some (.int .i64 (bAt l i).w):=by
 have e:bAt l i=l[i]:=by unfold bAt;rw[List.getD_eq_getElem?_getD,List.getElem?_eq_getElem h];rfl
 rw[e]
 exact ⟨flL_at (k:=3) (f:=blk3) (fun _=>rfl) l i h 0 (by omega),flL_at (k:=3) (f:=blk3) (fun _=>rfl) l i h 1 (by omega),flL_at (k:=3) (f:=blk3) (fun _=>rfl) l i h 2 (by omega)⟩
theorem blkC_len (l:List Blk):(blkC l).length=l.length*3:=flL_len (f:=blk3) (fun _=>rfl) l
structure AlcP (w:World) (A X:Nat) (v:Value) (a:Alc):Prop where
 ok:okB a.hi a.lo a.l
 most:a.hi≤65536
 obj:w.heap[A]?=some (.cells #[.pointer (some ⟨X,0,none⟩), .int .i64 a.lo, .int .i64 a.hi,v] 427 (0,0))
 row:w.ownsRow 0 308 3 v a.l.length (blkC a.l)
def OfA (A:Nat) (v:Value) (k:Nat):Prop:=k=A∨v.ownBlock=some k
section
variable {w w':World} {A X:Nat} {v:Value} {a:Alc}
theorem AlcP.lt (h:AlcP w A X v a):A<w.heap.size:=blk_in h.obj
theorem AlcP.of_lt (h:AlcP w A X v a) {k:Nat} (hk:OfA A v k):k<w.heap.size:=by
 rcases hk with rfl|hk
 ·exact h.lt
 ·exact (h.row.lt k hk).2
theorem AlcP.of_blocks (h:AlcP w A X v a) (e: ∀k,OfA A v k→w'.heap[k]?=w.heap[k]?):AlcP w' A X v a:=
 ⟨h.ok,h.most,(e A (Or.inl rfl)).trans h.obj,ownsRow_of_block h.row fun k hk=>e k (Or.inr hk)⟩
theorem AlcP.len (h:AlcP w A X v a):a.l.length≤65536:=by have:=okB_len h.ok;have:=h.most;omega
end
theorem allocfail_any (n:Int) (t:TypeId) (x:Value) (w:World):Calls Tryz.prog 224 #[.int .i64 n, .iface t x] w fun e w'=>(∃v,e= .returned v∧Som v)∧Below w.heap.size w w':=by
 go_enter Tryz.func224,Tryz.ntmps224
 go_wp2
 go_ret
 exact ⟨⟨_,rfl,_,_,rfl⟩,(Below.refl _ _).alloc (Nat.le_refl _) _⟩
set_option maxRecDepth 100000 in
set_option maxHeartbeats 1000000 in
theorem end_any {w:World} {A X:Nat} {v:Value} {a:Alc} (h:AlcP w A X v a) (i:Nat) (hi:i≤a.l.length):
  Calls Tryz.prog 225 #[.pointer (some ⟨A,0,none⟩), .int .i64 i] w fun e w'=>e= .returned (.int .i64 (endL a.lo a.l i))∧ ∃q,w'=w.drewN q:=by
 have ho:=h.obj
 cases i with
 |zero=>
  have c1:w.cell? ⟨A,1,none⟩=some (.int .i64 a.lo):=by rw[blk_cell ho];rfl
  have e0:endL a.lo a.l 0=a.lo:=rfl
  rw[e0]
  clear h ho hi e0
  go_enter Tryz.func225,Tryz.ntmps225
  go_wp2
  go_ret
  exact ⟨rfl,0,rfl⟩
 |succ j=>
  obtain ⟨g,cp,rfl,_,_,hcap,p1,_⟩:=own_at h.row (by omega)
  obtain ⟨n,hn⟩: ∃n,n=a.l.length:=⟨_,rfl⟩
  have c3:w.cell? ⟨A,3,none⟩=some (.slice (some ⟨g,0,none⟩) n cp):=by rw[blk_cell ho,hn];rfl
  obtain ⟨b0,b1,_⟩:=blkC_at (l:=a.l) (i:=j) (by omega)
  have x0:w.cell? ⟨g,j*3,none⟩=some (.int .i64 (bAt a.l j).pos):=(p1 _ (by omega)).trans b0
  have x1:w.cell? ⟨g,j*3+1,none⟩=some (.int .i64 (bAt a.l j).n):=(p1 _ (by omega)).trans b1
  have hb:=okB_in h.ok _ (bAt_mem (l:=a.l) (i:=j) (by omega))
  have hm:=h.most
  have hle:=h.len
  have e0:endL a.lo a.l (j+1)=(bAt a.l j).pos+(bAt a.l j).n:=rfl
  rw[e0]
  have hjn:(j:Int)<(n:Int):=by omega
  have hnI:(n:Int)≤65536:=by omega
  have hp:((bAt a.l j).pos:Int)≤65536:=by omega
  have hq:((bAt a.l j).n:Int)≤65536:=by omega
  generalize (bAt a.l j).pos=p at*
  generalize (bAt a.l j).n=q at*
  have hs1:IntKind.i64.wrap (j:Int)=(j:Int):=IntWalk.i64_in _ (by omega)
  have hs2:IntKind.i64.wrap ((p:Int)+(q:Int))=(p:Int)+(q:Int):=IntWalk.i64_in _ (by omega)
  clear h ho hi e0 b0 b1 p1 hb hm hle hn hcap
  go_enter Tryz.func225,Tryz.ntmps225
  go_wp2_with fail
  go_quiet (fail)
  go_wp2
  go_ret
  exact ⟨by simp,_,rfl⟩
set_option maxRecDepth 100000 in
set_option maxHeartbeats 1000000 in
theorem start_any {w:World} {A X:Nat} {v:Value} {a:Alc} (h:AlcP w A X v a) (i:Nat) (hi:i≤a.l.length):
  Calls Tryz.prog 226 #[.pointer (some ⟨A,0,none⟩), .int .i64 i] w fun e w'=>e= .returned (.int .i64 (startL a.hi a.l i))∧ ∃q,w'=w.drewN q:=by
 have ho:=h.obj
 obtain ⟨n,hn⟩: ∃n,n=a.l.length:=⟨_,rfl⟩
 have hnI:(n:Int)≤65536:=by have:=h.len;omega
 by_cases hlt:i<a.l.length
 ·obtain ⟨g,cp,rfl,_,_,hcap,p1,_⟩:=own_at h.row (by omega)
  have c3:w.cell? ⟨A,3,none⟩=some (.slice (some ⟨g,0,none⟩) n cp):=by rw[blk_cell ho,hn];rfl
  obtain ⟨b0,b1,_⟩:=blkC_at (l:=a.l) (i:=i) hlt
  have x0:w.cell? ⟨g,i*3,none⟩=some (.int .i64 (bAt a.l i).pos):=(p1 _ (by omega)).trans b0
  have e0:startL a.hi a.l i=(bAt a.l i).pos:=if_pos hlt
  rw[e0]
  have hjn:(i:Int)<(n:Int):=by omega
  generalize (bAt a.l i).pos=p at*
  clear h ho hi e0 b0 b1 p1 hn hcap hlt
  go_enter Tryz.func226,Tryz.ntmps226
  go_wp2_with fail
  all_goals
   go_ret
   exact ⟨rfl,0,rfl⟩
 ·obtain rfl:i=n:=by omega
  obtain ⟨Av,cv,hv⟩:=own_shape h.row
  have c3:w.cell? ⟨A,3,none⟩=some (.slice Av i cv):=by rw[blk_cell ho,hv,hn];rfl
  have c2:w.cell? ⟨A,2,none⟩=some (.int .i64 a.hi):=by rw[blk_cell ho];rfl
  have e0:startL a.hi a.l i=a.hi:=if_neg hlt
  rw[e0]
  clear h ho hi e0 hn hlt hv
  go_enter Tryz.func226,Tryz.ntmps226
  go_wp2_with fail
  all_goals
   go_ret
   exact ⟨rfl,0,rfl⟩
end Go.Proofs.YtaangaogmnlljaaGreatDoor.Kn
namespace Go.Proofs.YtaangaogmnlljaaGreatDoor.Kn
open Go.RowKit Asm
theorem row_tag {w:World} {base:Nat} {e:TypeId} {size n:Nat} {v:Value} {xs:List Value} {g:Nat} (h:w.ownsRow base e size v n xs) (hv:v.ownBlock=some g): ∃cur,w.heap[g]?=some (.cells cur e (0,0)):=row_block h hv
theorem AlcP.apart {w:World} {A X gc gw:Nat} {v:Value} {a:Alc} {m:Mem} (h:AlcP w A X v a) (hm:MemP w X gc gw m): ∀b,OfA A v b→ ¬(b=X∨b=gc∨b=gw):=by
 intro b hb
 obtain ⟨t,c,ho⟩:=hm.obj
 rcases hb with rfl|hb
 ·rintro (e|e|e)
  ·exact blk_ne h.obj ho (by decide) e
  ·exact blk_ne h.obj hm.hs (by decide) e
  ·exact blk_ne h.obj hm.ws (by decide) e
 ·obtain ⟨cur,hc⟩:=row_tag h.row hb
  rintro (e|e|e)
  ·exact blk_ne hc ho (by decide) e
  ·exact blk_ne hc hm.hs (by decide) e
  ·exact blk_ne hc hm.ws (by decide) e
theorem AlcP.ne {w:World} {A X:Nat} {v:Value} {a:Alc} (h:AlcP w A X v a):v.ownBlock≠some A:=by
 intro e
 obtain ⟨cur,hc⟩:=row_tag h.row e
 exact blk_ne hc h.obj (by decide) rfl
structure AlcR (w:World) (A X:Nat) (v:Value) (lo hi:Nat) (l:List Blk):Prop where
 obj:w.heap[A]?=some (.cells #[.pointer (some ⟨X,0,none⟩), .int .i64 lo, .int .i64 hi,v] 427 (0,0))
 row:w.ownsRow 0 308 3 v l.length (blkC l)
theorem AlcP.raw {w:World} {A X:Nat} {v:Value} {a:Alc} (h:AlcP w A X v a):AlcR w A X v a.lo a.hi a.l:=⟨h.obj,h.row⟩
section
variable {w w':World} {A X g c lo hi:Nat} {v v':Value} {l:List Blk}
theorem AlcR.ne (h:AlcR w A X v lo hi l):v.ownBlock≠some A:=by
 intro e
 obtain ⟨cur,hc⟩:=row_tag h.row e
 exact blk_ne hc h.obj (by decide) rfl
theorem AlcR.of_blocks (h:AlcR w A X v lo hi l) (e: ∀k,OfA A v k→w'.heap[k]?=w.heap[k]?):AlcR w' A X v lo hi l:=
 ⟨(e A (Or.inl rfl)).trans h.obj,ownsRow_of_block h.row fun k hk=>e k (Or.inr hk)⟩
theorem blkC_snoc (l:List Blk) (b:Blk):blkC (l++ [b])=blkC l++ [.int .i64 b.pos, .int .i64 b.n, .int .i64 b.w]:=by simp[blkC,blk3]
theorem blkC_one (l:List Blk): ∀u∈blkC l,u.oneCell'=true:=by
 intro u hu
 obtain ⟨t,_,h⟩:=List.mem_flatMap.1 hu
 simp[blk3] at h
 rcases h with rfl|rfl|rfl<;>rfl
theorem AlcR.laid (h:w.heap[A]?=some (.cells #[.pointer (some ⟨X,0,none⟩), .int .i64 lo, .int .i64 hi,v] 427 (0,0))) (hr:w.ownsRow 0 308 3 v' l.length (blkC l)):AlcR (w.setCell ⟨A,3,none⟩ v') A X v' lo hi l:=by
 refine ⟨set_block h _,ownsRow_of_block hr fun k hk=>?_⟩
 obtain ⟨cur,hc⟩:=row_tag hr hk
 exact set_other (blk_ne hc h (by decide))
theorem AlcR.moved (h:AlcR w A X (.slice (some ⟨g,0,none⟩) (l.length+1) c) lo hi (l++ [zB])) (i:Nat) (hi':i<l.length):
  ∃cur:Array Value,w.heap[g]?=some (.cells cur 308 (0,0))∧(i+1)*3+(blkC (l.drop i)).length≤cur.size∧
   AlcR (w.setRow g (cur.toList.take ((i+1)*3)++blkC (l.drop i)++cur.toList.drop ((i+1)*3+(blkC (l.drop i)).length)).toArray) A X (.slice (some ⟨g,0,none⟩) (l.length+1) c) lo hi ((l++ [zB]).take (i+1)++l.drop i):=by
 have hr:=h.row
 have e1:(l++ [zB]).length=l.length+1:=by simp
 rw[e1] at hr
 have e2:(blkC (l.drop i)).length=(l.length - i)*3:=by rw[blkC_len,List.length_drop]
 obtain ⟨cur,hc,hsz,hr2⟩:=own_over hr ((i+1)*3) (blkC (l.drop i)) (by rw[e2];omega)
 have hgA:A≠g:=fun e=>h.ne (by rw[e];rfl)
 refine ⟨cur,hc,hsz,(setRow_other' w g A _ hgA).trans h.obj,?_⟩
 have e3:((l++ [zB]).take (i+1)++l.drop i).length=l.length+1:=by simp;omega
 rw[e3]
 have e4:blkC ((l++ [zB]).take (i+1)++l.drop i)=(blkC (l++ [zB])).take ((i+1)*3)++blkC (l.drop i)++(blkC (l++ [zB])).drop ((i+1)*3+(blkC (l.drop i)).length):=by
  have e5:(blkC (l++ [zB])).take ((i+1)*3)=blkC ((l++ [zB]).take (i+1)):=flL_take (f:=blk3) (fun _=>rfl) _ _
  have e6:(blkC (l++ [zB])).drop ((i+1)*3+(blkC (l.drop i)).length)= []:=by
   apply List.drop_eq_nil_of_le
   rw[blkC_len,e1,e2];omega
  rw[e5,e6,List.append_nil]
  simp[blkC]
 rw[e4]
 exact hr2
theorem AlcR.stored (h:AlcR w A X (.slice (some ⟨g,0,none⟩) l.length c) lo hi l) (i:Nat) (hi':i<l.length) (b:Blk):
  AlcR (((w.setCell ⟨g,i*3,none⟩ (.int .i64 b.pos)).setCell ⟨g,i*3+1,none⟩ (.int .i64 b.n)).setCell ⟨g,i*3+2,none⟩ (.int .i64 b.w)) A X (.slice (some ⟨g,0,none⟩) l.length c) lo hi (l.set i b):=by
 have hgA:A≠g:=fun e=>h.ne (by rw[e];rfl)
 have h1:=(h.row.stored (i*3) (.int .i64 b.pos)).1
 have h2:=(h1.stored (i*3+1) (.int .i64 b.n)).1
 have h3:=(h2.stored (i*3+2) (.int .i64 b.w)).1
 have e:(((blkC l).set (i*3) (.int .i64 b.pos)).set (i*3+1) (.int .i64 b.n)).set (i*3+2) (.int .i64 b.w)=blkC (l.set i b):=by
  have f1:=flL_set (k:=3) (f:=blk3) (fun _=>rfl) l i hi' 0 (by omega) (.int .i64 b.pos) ⟨b.pos,(l[i]).n,(l[i]).w⟩ rfl
  have f2:=flL_set (k:=3) (f:=blk3) (fun _=>rfl) (l.set i ⟨b.pos,(l[i]).n,(l[i]).w⟩) i (by simpa using hi') 1 (by omega) (.int .i64 b.n) ⟨b.pos,b.n,(l[i]).w⟩ (by rw[List.getElem_set_self];rfl)
  have f3:=flL_set (k:=3) (f:=blk3) (fun _=>rfl) ((l.set i ⟨b.pos,(l[i]).n,(l[i]).w⟩).set i ⟨b.pos,b.n,(l[i]).w⟩) i (by simpa using hi') 2 (by omega) (.int .i64 b.w) b (by rw[List.getElem_set_self];rfl)
  unfold blkC
  rw[show i*3=i*3+0 from rfl,f1,f2,f3,List.set_set,List.set_set]
 rw[e] at h3
 refine ⟨?_,by rw[List.length_set];exact h3⟩
 rw[set_other hgA,set_other hgA,set_other hgA]
 exact h.obj
theorem ins_eq (l:List Blk) (i:Nat) (h:i≤l.length) (b:Blk):((l++ [zB]).take (i+1)++l.drop i).set i b=l.take i++b::l.drop i:=by
 have e1:(l++ [zB]).take (i+1)=l.take i++ [(l++ [zB])[i]'(by simp;omega)]:=by
  rw[List.take_succ_eq_append_getElem (by simp;omega),List.take_append_of_le_length h]
 rw[e1,List.append_assoc,List.set_append_right _ _ (by simp;omega),List.length_take,Nat.min_eq_left h,Nat.sub_self]
 rfl
end
def GetOut (w:World) (A X gc gw:Nat) (v:Value) (r:Option (Nat×Alc×Mem)) (e:Ending) (w':World):Prop:=match r with
 |none=>(∃ev,e= .returned (.tuple #[.int .i64 0,ev])∧Som ev)∧Below w.heap.size w w'
 |some (p,a',m')=>e= .returned (.tuple #[.int .i64 p, .nilIface])∧ ∃v',AlcP w' A X v' a'∧MemP w' X gc gw m'∧Keeps (fun b=>b=X∨b=gc∨b=gw∨OfA A v b) w w'∧ ∀b,v'.ownBlock=some b→v.ownBlock=some b∨w.heap.size≤b
theorem info345:(Tryz.prog.info? 308).map (fun i=>(i.zero,i.size,i.bytes))=some (some (.agg #[.int .i64 0, .int .i64 0, .int .i64 0]),3,24):=by kernel_rfl
set_option maxRecDepth 100000 in
set_option maxHeartbeats 2000000 in
theorem get_any {w:World} {A X gc gw:Nat} {v:Value} {a:Alc} {m:Mem} (h:AlcP w A X v a) (hm:MemP w X gc gw m) (n:Nat) (hn:n≤4096):
  Calls Tryz.prog 170 #[.pointer (some ⟨A,0,none⟩), .int .i64 n, .int .i64 64] w (GetOut w A X gc gw v (getA a m n 64)):=by
 have HF:=Lib.hid (fun n t x W=>allocfail_any n t x W)
 by_cases hn0:n=0
 ·subst hn0
  have e0:getA a m 0 64=none:=by unfold getA;rw[if_pos (Or.inl (by omega))]
  rw[e0]
  clear h hm hn e0
  go_enter Tryz.func170,Tryz.ntmps170
  go_wp2_with fail
  refine (HF.out _ _ _ _).mono ?_
  rintro e w1 ⟨⟨ev,rfl,hev⟩,hb1⟩
  go_wp2
  go_ret2
  exact ⟨⟨_,rfl,hev⟩,hb1⟩
 have hn1:1≤(n:Int):=by omega
 have hnI:(n:Int)≤4096:=by omega
 obtain ⟨L,hL⟩: ∃L,L=a.l.length:=⟨_,rfl⟩
 obtain ⟨Av,cv,rfl⟩:=own_shape h.row
 have hLe:=h.len
 have hLI:(L:Int)≤65536:=by omega
 have H:=Lib.hid h
 have HM:=Lib.hid hm
 have HL:=Lib.hid hL
 rw[←hL] at H
 have HEnd:=Lib.hid (fun (W:World) (e:W.heap=w.heap) (i:Nat) (hi:i≤a.l.length)=>end_any (h.of_blocks (w':=W) (fun k _=>by rw[e])) i hi)
 have HStart:=Lib.hid (fun (W:World) (e:W.heap=w.heap) (i:Nat) (hi:i≤a.l.length)=>start_any (h.of_blocks (w':=W) (fun k _=>by rw[e])) i hi)
 have HGap:=Lib.hid (fun k hk hb hh=>gap_of n a.hi a.l a.lo k hk hb hh)
 have HNo:=Lib.hid (gap_no n a.hi a.l a.lo)
 have HBd:=Lib.hid (fun i hi=>okB_gap h.ok i hi)
 have HMost:=Lib.hid h.most
 have hA:=h.obj
 have hgA:getA a m n 64=(match gapL n a.hi a.lo a.l with|none=>none|some (at',k)=>if m.free? at' n then some (at',{ a with l:=a.l.take k++⟨at',n,64⟩::a.l.drop k},m.map at' n 64) else none):=by
  unfold getA;rw[if_neg (by omega)];rfl
 have HG:=Lib.hid hgA
 have c3:w.cell? ⟨A,3,none⟩=some (.slice Av L cv):=by rw[blk_cell hA,hL];rfl
 have HC3:=Lib.hid c3
 have c0:w.cell? ⟨A,0,none⟩=some (.pointer (some ⟨X,0,none⟩)):=by rw[blk_cell hA];rfl
 have HC0:=Lib.hid c0
 clear h hm hgA hL hLe hn c3 c0 hA hn0
 go_enter Tryz.func170,Tryz.ntmps170
 go_wp2_with fail
 go_loopw [8] (fun iv wr=> ∃i q:Nat,i≤L+1∧iv= .int .i64 (i:Int)∧Hid (wr=w.drewN q)∧Hid (∀j,j<i→(startL a.hi a.l j:Int) - endL a.lo a.l j<n)) (fun iv _=>L+1 - (intOf iv).toNat)
 case atStart=>exact ⟨0,0,by omega,rfl,Lib.hid rfl,Lib.hid fun j hj=>absurd hj (by omega)⟩
 case round=>
  obtain ⟨i,q,hi,rfl,HW,HB⟩:=hrel
  have c3:wr.cell? ⟨A,3,none⟩=some (.slice Av L cv):=by rw[HW.out];exact HC3.out
  by_cases hle:i≤L
  ·have hleI:(i:Int)≤(L:Int):=by omega
   have E1:=Lib.hid (HEnd.out wr (by rw[HW.out];rfl) i (by rw[←HL.out];exact hle))
   have E2:=Lib.hid (fun q'=>HStart.out (wr.drewN q') (by rw[HW.out];rfl) i (by rw[←HL.out];exact hle))
   have hbd:=HBd.out i (by rw[←HL.out];exact hle)
   have hmo:=HMost.out
   have HGi:=Lib.hid (HGap.out i (by rw[←HL.out];exact hle) HB.out)
   obtain ⟨en,hen⟩: ∃en,en=endL a.lo a.l i:=⟨_,rfl⟩
   obtain ⟨st,hst⟩: ∃st,st=startL a.hi a.l i:=⟨_,rfl⟩
   rw[←hen,←hst] at hbd
   have HEn:=Lib.hid hen
   have HSt:=Lib.hid hst
   rw[←hen] at E1
   rw[←hst] at E2
   rw[←hen,←hst] at HGi
   have hb1:(en:Int)≤(st:Int):=by omega
   have hb2:(st:Int)≤65536:=by omega
   have hen2:en≤65536:=by omega
   clear hen hst hbd hmo
   go_wp2_with fail
   refine E1.out.mono ?_
   rintro e w1 ⟨rfl,q1,rfl⟩
   go_wp2_with fail
   refine (E2.out _).mono ?_
   rintro e w1 ⟨rfl,q2,rfl⟩
   rw[World.drewN_drewN]
   have HW2:Hid (wr.drewN (q1+q2)=w.drewN (q+(q1+q2))):=Lib.hid (by rw[HW.out,World.drewN_drewN])
   by_cases hlt:(st:Int) - (en:Int)<(n:Int)
   ·have hltB:decide ((st:Int) - (en:Int)<(n:Int))=true:=by simpa using hlt
    go_wp2_with fail
    go_roundw
    case rel=>
     refine ⟨i+1,q+(q1+q2),by omega,by go_num,HW2,Lib.hid fun j hj=>?_⟩
     rcases Nat.lt_succ_iff_lt_or_eq.1 hj with h1|h1
     ·exact HB.out j h1
     ·rw[h1,←HEn.out,←HSt.out];exact hlt
    case measure=>simp[intOf];omega
   ·have hltB:decide ((st:Int) - (en:Int)<(n:Int))=false:=by simpa using hlt
    have HGk:=Lib.hid (HGi.out (by omega))
    have c0:wr.cell? ⟨A,0,none⟩=some (.pointer (some ⟨X,0,none⟩)):=by rw[HW.out];exact HC0.out
    have hnn:(n:Int)≤(st:Int) - (en:Int):=by omega
    have EM:=Lib.hid (map_any (HM.out.of_blocks (w':=wr.drewN (q1+q2)) (fun b _=>by rw[HW.out];rfl)) en n 64 (Or.inr rfl) (by omega) (by omega) (by omega))
    cases hfr:m.free? en n with
    |false=>
     rw[hfr,if_neg (by decide)] at EM
     have e0:getA a m n 64=none:=by
      rw[HG.out,HGk.out]
      simp only[hfr]
      rfl
     have HE0:=Lib.hid e0
     have HB0:Hid (Below w.heap.size w (wr.drewN (q1+q2))):=Lib.hid (by rw[HW2.out];exact below_drewN w _)
     clear e0 hfr
     go_wp2_with fail
     refine EM.out.mono ?_
     rintro e w3 ⟨⟨ev,rfl,t,x,rfl⟩,hb3⟩
     go_wp2_with fail
     refine (HF.out _ _ _ _).mono ?_
     rintro e w4 ⟨⟨ev,rfl,hev⟩,hb4⟩
     go_wp2
     go_ret2
     rw[HE0.out]
     exact ⟨⟨_,rfl,hev⟩,(HB0.out.trans (hb3.mono HB0.out.size)).trans (hb4.mono (by have:=HB0.out.size;have:=hb3.size;omega))⟩
    |true=>
     rw[hfr,if_pos rfl] at EM
     have HE0:Hid (getA a m n 64=some (en,{ a with l:=a.l.take i++⟨en,n,64⟩::a.l.drop i},m.map en n 64)):=Lib.hid (by
      rw[HG.out,HGk.out]
      simp only[hfr]
      rfl)
     have HOk:Hid (okB a.hi a.lo (a.l.take i++⟨en,n,64⟩::a.l.drop i)):=Lib.hid (by
      have:=okB_ins (n:=n) (wd:=64) (by omega) (by omega) (Or.inr rfl) H.out.ok i (by rw[←HL.out];exact hle) (by rw[←HEn.out,←HSt.out];omega)
      rwa[←HEn.out] at this)
     have hheap:(wr.drewN (q1+q2)).heap=w.heap:=by rw[HW.out];rfl
     have HHp:=Lib.hid hheap
     clear hfr hheap
     go_wp2_with fail
     refine EM.out.mono ?_
     rintro e w3 ⟨rfl,hm3,hk3⟩
     have hap:=H.out.apart HM.out
     have hb3: ∀k,OfA A (.slice Av L cv) k→w3.heap[k]?=w.heap[k]?:=fun k hk=>(hk3.block k (by rw[HHp.out];exact H.out.of_lt hk) (hap k hk)).trans (by rw[HHp.out])
     have R3:=H.out.raw.of_blocks hb3
     have hAl:A<w3.heap.size:=blk_in R3.obj
     have c3':w3.cell? ⟨A,3,none⟩=some (.slice Av L cv):=by rw[blk_cell R3.obj];rfl
     have f3': ∀o,w3.frozen? ⟨A,o,none⟩=false:=fun o=>blk_frozen R3.obj o
     obtain ⟨i3,hi3,hz3,hs3',hbb3⟩:=info_parts info345
     have hr3:w3.ownsRow 0 308 3 (.slice Av L cv) L (blkC a.l):=by have:=R3.row;rwa[←HL.out] at this
     have E4:=Lib.hid (hr3.alloc (.cells #[.int .i64 0, .int .i64 0, .int .i64 0] 308))
     have N4:Hid (∀j u,([.int .i64 0, .int .i64 0, .int .i64 0]:List Value)[j]?=some u→(w3.alloc (.cells #[.int .i64 0, .int .i64 0, .int .i64 0] 308)).cell? ((⟨w3.heap.size,0,none⟩:Addr).add j)=some u):=Lib.hid (by
      intro j u hu
      rw[Addr.add_lit,Nat.zero_add]
      exact (World.cell?_alloc_at _ _ _ _ rfl).trans (by simpa using hu))
     have O4:Hid (∀u∈([.int .i64 0, .int .i64 0, .int .i64 0]:List Value),u.oneCell'=true):=Lib.hid (by
      intro u hu
      simp at hu
      subst hu
      rfl)
     have M41:=Lib.hid (show L+1≤maxLen by unfold maxLen;omega)
     have M42:=Lib.hid (show (L+1)*24≤140737488355328 by omega)
     have M43:=Lib.hid (show 0≤(w3.alloc (.cells #[.int .i64 0, .int .i64 0, .int .i64 0] 308)).heap.size by omega)
     have HNe:=Lib.hid H.out.ne
     have HR3:=Lib.hid R3
     have HM3:=Lib.hid hm3
     have HK3:Hid (Keeps (fun b=>b=X∨b=gc∨b=gw∨OfA A (.slice Av L cv) b) w w3):=Lib.hid ⟨by rw[hk3.os,HW2.out];rfl,by rw[hk3.tape,HW2.out];rfl,by rw[hk3.output,HW2.out];rfl,by have:=hk3.size;rw[HHp.out] at this;exact this,fun k hk hx=>(hk3.block k (by rw[HHp.out];exact hk) (fun hh=>hx (by rcases hh with hh|hh|hh<;>first|exact Or.inl hh|exact Or.inr (Or.inl hh) |exact Or.inr (Or.inr (Or.inl hh))))).trans (by rw[HHp.out])⟩
     have HB3:=Lib.hid hb3
     clear hap hb3 R3 hr3 hm3 hk3
     go_wp2_with (at_builtin;refine wpList_append_own_at _ rfl _ _ 425 rfl 0 308 i3 _ 3 24 Tryz.underlying425 hi3 hz3 hs3' hbb3 rfl (by decide) _ _ _ rfl E4.out ⟨w3.heap.size,0,none⟩ 1 1 [.int .i64 0, .int .i64 0, .int .i64 0] rfl rfl N4.out O4.out M41.out M42.out M43.out ?_;intro v' w5 hown hgrow _ hnew;obtain ⟨A',c',rfl⟩:=own_shape hown;have t0:=(World.cell?_of_block (a:=⟨A,3,none⟩) (hgrow.block A (by simp;omega) (fun e=>HNe.out e.symm))).trans ((World.cell?_alloc_lt _ _ ⟨A,3,none⟩ hAl).trans c3');have t1:=(World.frozen?_of_block (a:=⟨A,3,none⟩) (hgrow.block A (by simp;omega) (fun e=>HNe.out e.symm))).trans ((World.frozen?_alloc_old _ _ ⟨A,3,none⟩ (Nat.ne_of_lt hAl)).trans (f3' 3));have HOwn:=Lib.hid hown;have HGr:=Lib.hid hgrow;have HNw:=Lib.hid hnew;clear hown hgrow hnew)
     have hblk5: ∀k,k<w3.heap.size→Value.ownBlock (.slice Av L cv)≠some k→w5.heap[k]?=w3.heap[k]?:=fun k hk hne=>(HGr.out.block k (by simp;omega) (fun e=>hne e.symm)).trans (Below.heap_alloc _ _ _ hk)
     have hA5:w5.heap[A]?=some (.cells #[.pointer (some ⟨X,0,none⟩), .int .i64 a.lo, .int .i64 a.hi, .slice Av L cv] 427 (0,0)):=(hblk5 A hAl HNe.out).trans HR3.out.obj
     have hr5:w5.ownsRow 0 308 3 (.slice A' (L+1) c') (a.l++ [zB]).length (blkC (a.l++ [zB])):=by
      rw[blkC_snoc,List.length_append,←HL.out];exact HOwn.out
     have R6:=AlcR.laid hA5 hr5
     have hK5:Keeps (fun b=>b=X∨b=gc∨b=gw∨OfA A (.slice Av L cv) b) w w5:=(HK3.out.alloc (.cells #[.int .i64 0, .int .i64 0, .int .i64 0] 308)).grown HGr.out fun k hk=>Or.inr (Or.inr (Or.inr (Or.inr hk)))
     have K6:Keeps (fun b=>b=X∨b=gc∨b=gw∨OfA A (.slice Av L cv) b) w (w5.setCell ⟨A,3,none⟩ (.slice A' (L+1) c')):=hK5.setCell (p:=⟨A,3,none⟩) (Or.inr (Or.inr (Or.inr (Or.inl rfl)))) _
     have M6:MemP (w5.setCell ⟨A,3,none⟩ (.slice A' (L+1) c')) X gc gw (m.map en n 64):=HM3.out.of_blocks fun b hb=>by
      have hba:b≠A:=fun e=>H.out.apart HM.out A (Or.inl rfl) (by rw[←e];exact hb)
      rw[set_other hba]
      refine hblk5 b ?_ (fun e=>H.out.apart HM.out b (Or.inr e) hb)
      obtain ⟨l1,l2,l3⟩:=HM3.out.lt
      rcases hb with rfl|rfl|rfl<;>assumption
     have F6: ∀g,A'=some ⟨g,0,none⟩→Value.ownBlock (.slice Av L cv)=some g∨w.heap.size≤g:=by
      intro g hg
      rcases HNw.out with h1|h1
      ·exact Or.inl ((show Value.ownBlock (.slice Av L cv)=Value.ownBlock (.slice A' (L+1) c') from h1.symm).trans (by rw[hg];rfl))
      ·have h1':Value.ownBlock (.slice A' (L+1) c')=some (w3.alloc (.cells #[.int .i64 0, .int .i64 0, .int .i64 0] 308)).heap.size:=h1
       rw[hg] at h1'
       have:g=(w3.alloc (.cells #[.int .i64 0, .int .i64 0, .int .i64 0] 308)).heap.size:=by injection h1'
       right
       have h2:=HK3.out.size
       rw[this];simp;omega
     generalize w5.setCell ⟨A,3,none⟩ (.slice A' (L+1) c')=w6 at R6 K6 M6 ⊢
     have hr6:=R6.row
     rw[List.length_append,←HL.out] at hr6
     obtain ⟨g,c,hgv,_,hgl,hcap,_,_⟩:=own_at hr6 (by simp)
     injection hgv with hg1 hgn hg2
     subst hg1 hg2
     clear hgn
     have HF6:=Lib.hid (F6 g rfl)
     have HR6:=Lib.hid R6
     have HK6:=Lib.hid K6
     have HM6:=Lib.hid M6
     have c6:w6.cell? ⟨A,3,none⟩=some (.slice (some ⟨g,0,none⟩) (L+1) c'):=by rw[blk_cell R6.obj];rfl
     have hcI:(L:Int)+1≤(c':Int):=by simp at hcap;omega
     clear hblk5 hA5 hr5 R6 hK5 K6 M6 F6 hr6 hgl hcap
     have hs1:IntKind.i64.wrap ((i:Int)+1)=(i:Int)+1:=IntWalk.i64_in _ (by omega)
     have hs2:(0:Int)≤(i:Int)+1:=by omega
     have hs3:(i:Int)+1≤(L:Int)+1:=by omega
     have hs4:(i:Int)≤(L:Int)+1:=by omega
     have hcopy:Hid (∃(cnt:Nat) (w7:World),(Builtin.copy_ #[425,425] 3 #[.slice (if c'=i+1 then some ⟨g,0,none⟩ else some ⟨g,(i+1)*3,none⟩) (L - i) (c' - (i+1)), .slice (if c'=i then some ⟨g,0,none⟩ else some ⟨g,i*3,none⟩) (L+1 - i) (c' - i)]).run Tryz.prog w6.drew= .ok (goInt cnt) w7∧
       AlcR w7 A X (.slice (some ⟨g,0,none⟩) (L+1) c') a.lo a.hi ((a.l++ [zB]).take (i+1)++a.l.drop i)∧Keeps (fun b=>b=X∨b=gc∨b=gw∨OfA A (.slice Av L cv) b) w w7∧MemP w7 X gc gw (m.map en n 64)):=Lib.hid (by
      have hsize:(Tryz.prog.info? 308).map (·.size)=some 3:=by rw[hi3];exact congrArg some hs3'
      by_cases hiL:i<L
      ·have R6:=HR6.out
       rw[HL.out] at R6
       obtain ⟨cur,hc,hsz,R7⟩:=R6.moved i (by rw[←HL.out];exact hiL)
       have hlen:(blkC (a.l.drop i)).length=(L - i)*3:=by rw[blkC_len,List.length_drop,←HL.out]
       have hr:=R6.row
       rw[show (a.l++ [zB]).length=a.l.length+1 by simp] at hr
       obtain ⟨g',c'',hv',_,_,_,p1,_⟩:=own_at hr (by omega)
       injection hv' with hv1 _ _
       injection hv1 with hv1
       injection hv1 with hv1 _ _
       subst hv1
       rw[if_neg (by omega),if_neg (by omega)]
       have hrun:=run_copy_rowK (P:=Tryz.prog) w6.drew 425 425 3 308 3 g ((i+1)*3) (L - i) (c' - (i+1)) ⟨g,i*3,none⟩ (L+1 - i) (c' - i) cur 308 (blkC (a.l.drop i)) Tryz.underlying425 hsize hc
        (by rw[hlen,show Nat.min (L+1 - i) (L - i)=L - i from Nat.min_eq_right (by omega)])
        (by
         intro j u hj
         have hjl:j<(L - i)*3:=by rw[←hlen];exact (List.getElem?_eq_some_iff.1 hj).1
         rw[Addr.add_lit]
         refine (p1 (i*3+j) (by rw[←HL.out];omega)).trans ?_
         have e1:(blkC (a.l.drop i))=(blkC a.l).drop (i*3):=(flL_drop (f:=blk3) (fun _=>rfl) a.l i).symm
         rw[e1,List.getElem?_drop] at hj
         have e2:blkC (a.l++ [zB])=blkC a.l++blkC [zB]:=by simp[blkC]
         rw[e2,List.getElem?_append_left (by rw[blkC_len,←HL.out];omega)]
         exact hj) hsz (blkC_one _)
       refine ⟨_,_,hrun,?_,?_,?_⟩
       ·rw[HL.out];exact R7.of_blocks fun _ _=>rfl
       ·have hk:Keeps (fun k=>k=g) w6.drew (w6.drew.setRow g (cur.toList.take ((i+1)*3)++blkC (a.l.drop i)++cur.toList.drop ((i+1)*3+(blkC (a.l.drop i)).length)).toArray):=⟨rfl,rfl,rfl,by rw[grown_setRow];exact Nat.le_refl _,fun k _ hx=>setRow_other' _ _ _ _ hx⟩
        refine HK6.out.drew.trans hk fun k hk=>?_
        subst hk
        rcases HF6.out with h1|h1
        ·exact Or.inl (Or.inr (Or.inr (Or.inr (Or.inr h1))))
        ·exact Or.inr h1
       ·refine HM6.out.of_blocks fun b hb=>?_
        have:b≠g:=by
         obtain ⟨t,ct,ho⟩:=HM6.out.obj
         rcases hb with rfl|rfl|rfl
         ·exact blk_ne ho hc (by decide)
         ·exact blk_ne HM6.out.hs hc (by decide)
         ·exact blk_ne HM6.out.ws hc (by decide)
        exact setRow_other' w6.drew g b _ this
      ·obtain rfl:i=L:=by omega
       refine ⟨0,w6.drew,run_copy_noneK w6.drew _ _ _ 308 3 _ _ _ _ _ _ Tryz.underlying425 hsize (by rw[Nat.sub_self i];exact Nat.min_zero _),?_,HK6.out.drew,HM6.out.of_blocks fun _ _=>rfl⟩
       have e1:(a.l++ [zB]).take (i+1)++a.l.drop i=a.l++ [zB]:=by
        rw[HL.out,List.drop_length,List.append_nil,List.take_of_length_le (by simp)]
       rw[e1]
       exact HR6.out.of_blocks fun _ _=>rfl)
     go_still_tail 13,(by kernel_rfl)
     change wpList _ _ _ _ _ w6.drew
     obtain ⟨cnt,w7,hrun,R7,K7,M7⟩:=hcopy.out
     refine wpList_copy_eq w6.drew rfl (.tmp 75) (.tmp 81) _ _ rfl _ _ rfl rfl hrun ?_
     have e7:((a.l++ [zB]).take (i+1)++a.l.drop i).length=L+1:=by have:=HL.out;simp;omega
     have R7':AlcR w7 A X (.slice (some ⟨g,0,none⟩) ((a.l++ [zB]).take (i+1)++a.l.drop i).length c') a.lo a.hi ((a.l++ [zB]).take (i+1)++a.l.drop i):=by rw[e7];exact R7
     have R8:=R7'.stored i (by rw[e7];omega) ⟨en,n,64⟩
     rw[ins_eq a.l i (by rw[←HL.out];exact hle),e7] at R8
     have hlen8:(a.l.take i++⟨en,n,64⟩::a.l.drop i).length=L+1:=by have:=HL.out;simp;omega
     obtain ⟨g',c'',hv',_,hgl,_,p7,f7⟩:=own_at R7'.row (by rw[e7];omega)
     injection hv' with hv1 hv2 hv3
     injection hv1 with hv1
     injection hv1 with hv1 _ _
     subst hv1
     clear hv2 hv3
     have hx7: ∀j,j<3→ ∃u,w7.cell? ⟨g,i*3+j,none⟩=some u:=fun j hj=>by
      rw[p7 (i*3+j) (by rw[e7];omega)]
      have:i*3+j<(blkC ((a.l++ [zB]).take (i+1)++a.l.drop i)).length:=by rw[blkC_len,e7];omega
      exact ⟨_,List.getElem?_eq_getElem this⟩
     obtain ⟨u0,x0⟩:=hx7 0 (by omega)
     obtain ⟨u1,x1⟩:=hx7 1 (by omega)
     obtain ⟨u2,x2⟩:=hx7 2 (by omega)
     rw[Nat.add_zero] at x0
     have c7:w7.cell? ⟨A,3,none⟩=some (.slice (some ⟨g,0,none⟩) (L+1) c'):=by rw[blk_cell R7.obj];rfl
     have hgne:g≠X∧g≠gc∧g≠gw:=by
      obtain ⟨cur,hc⟩:=row_tag R7.row (g:=g) rfl
      obtain ⟨t,ct,ho⟩:=M7.obj
      exact ⟨blk_ne hc ho (by decide),blk_ne hc M7.hs (by decide),blk_ne hc M7.ws (by decide)⟩
     have M8:MemP (((w7.setCell ⟨g,i*3,none⟩ (.int .i64 en)).setCell ⟨g,i*3+1,none⟩ (.int .i64 n)).setCell ⟨g,i*3+2,none⟩ (.int .i64 64)) X gc gw (m.map en n 64):=M7.of_blocks fun b hb=>by
      have:b≠g:=by rcases hb with rfl|rfl|rfl<;>first|exact hgne.1.symm|exact hgne.2.1.symm|exact hgne.2.2.symm
      rw[set_other this,set_other this,set_other this]
     have K8:Keeps (fun b=>b=X∨b=gc∨b=gw∨OfA A (.slice Av L cv) b) w (((w7.setCell ⟨g,i*3,none⟩ (.int .i64 en)).setCell ⟨g,i*3+1,none⟩ (.int .i64 n)).setCell ⟨g,i*3+2,none⟩ (.int .i64 64)):=by
      refine K7.trans (Y:=fun k=>k=g) ((((Keeps.refl (fun k=>k=g) w7).setCell (p:=⟨g,i*3,none⟩) rfl _).setCell (p:=⟨g,i*3+1,none⟩) rfl _).setCell (p:=⟨g,i*3+2,none⟩) rfl _) fun k hk=>?_
      subst hk
      rcases HF6.out with h1|h1
      ·exact Or.inl (Or.inr (Or.inr (Or.inr (Or.inr h1))))
      ·exact Or.inr h1
     have HR8:=Lib.hid R8
     have HM8:=Lib.hid M8
     have HK8:=Lib.hid K8
     have HL8:=Lib.hid hlen8
     clear R7 R7' R8 M7 M8 K7 K8 e7 p7 hx7 hgne hlen8 hrun hcopy
     go_wp2_with fail
     all_goals
      go_ret2
      rw[HE0.out]
      have hL9:=HL.out
      subst hL9
      exact ⟨rfl,_,⟨HOk.out,HMost.out,HR8.out.obj,by have:=HR8.out.row;exact this⟩,HM8.out,HK8.out,fun b hb=>by
       have:b=g:=by injection hb with hb;exact hb.symm
       subst this
       exact HF6.out⟩
  ·obtain rfl:i=L+1:=by omega
   have e0:getA a m n 64=none:=by
    rw[HG.out,HNo.out fun j hj=>HB.out j (by rw[HL.out];omega)]
   have HE0:=Lib.hid e0
   have HB0:Hid (Below w.heap.size w wr):=Lib.hid (by rw[HW.out];exact below_drewN w _)
   have hlI:(L:Int)<((L+1:Nat):Int):=by omega
   clear e0 hle
   go_wp2_with fail
   refine (HF.out _ _ _ _).mono ?_
   rintro e w4 ⟨⟨ev,rfl,hev⟩,hb4⟩
   go_wp2
   go_ret2
   rw[HE0.out]
   exact ⟨⟨_,rfl,hev⟩,HB0.out.trans (hb4.mono HB0.out.size)⟩
end Go.Proofs.YtaangaogmnlljaaGreatDoor.Kn
namespace Go.Proofs.YtaangaogmnlljaaGreatDoor.Kn
open Go.RowKit Asm
theorem mid_set {w:World} {g o:Nat} {A y B:List Value} {t:TypeId} (h:w.heap[g]?=some (.cells (A++y++B).toArray t (0,0))) (j:Nat) (hj:j<y.length) (ho:o=A.length+j) (v:Value):
  (w.setCell ⟨g,o,none⟩ v).heap[g]?=some (.cells (A++y.set j v++B).toArray t (0,0)):=by
 rw[set_block h,ho,←set_mid A y B j hj v]
 simp
theorem TabP.mid {w:World} {T gt:Nat} {l:List TRow} {N:Nat} (h:TabP w T gt l N) {p:Nat} (hp:p<64):
  w.heap[gt]?=some (.cells ((l.take p).flatMap tr10++tr10 (tAt l p)++(l.drop (p+1)).flatMap tr10).toArray 382 (0,0))∧((l.take p).flatMap tr10).length=p*10:=by
 have hlt:p<l.length:=by rw[h.ok.len];exact hp
 refine ⟨?_,by rw[flL_len (k:=10) (fun _=>rfl),List.length_take,Nat.min_eq_left (by omega)]⟩
 rw[tAt_get hlt,←flL_mid l p hlt]
 exact h.row
theorem TabP.put {w w':World} {T gt:Nat} {l:List TRow} {N:Nat} (h:TabP w T gt l N) {p:Nat} (hp:p<64) (r:TRow) (hr:TRowOk r p N) (hT:w'.heap[T]?=w.heap[T]?)
  (hm:w'.heap[gt]?=some (.cells ((l.take p).flatMap tr10++tr10 r++(l.drop (p+1)).flatMap tr10).toArray 382 (0,0))):TabP w' T gt (l.set p r) N:=by
 have hlt:p<l.length:=by rw[h.ok.len];exact hp
 refine ⟨h.ok.set hp hr,hT.trans h.obj,?_⟩
 rw[hm,flL_put l p hlt]
 rfl
theorem u64_0:U64 0:=⟨by decide,by decide⟩
end Go.Proofs.YtaangaogmnlljaaGreatDoor.Kn
