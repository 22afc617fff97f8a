/- Part 3 of what the proof stands on: Within, Row. -/
import Derived.Lib.Hide
import Derived.WalkKit
import Derived.Carry
import Derived.ChangeSame
import Derived.OpenShut
import Derived.ProofKit
import Derived.Test.YtaangaogmnlljaaGreatDoorProg
import Derived.Test.YtaangaogmnlljaaGreatDoorRows
set_option linter.unusedVariables false
namespace Go.Proofs.YtaangaogmnlljaaGreatDoor
open Go.RowKit
theorem within_any (v n:Int) (w:World) (hn:1≤n) (hn2:n≤1000000) (hv: -9223372036854775808≤v∧v≤9223372036854775807):
  Calls Tryz.prog 23 #[.int .i64 v, .int .i64 n] w fun e w'=>e= .returned (.int .i64 (v%n))∧w=w':=by
 have hr0:0≤v%n:=Int.emod_nonneg _ (by omega)
 have hr1:v%n<n:=Int.emod_lt_of_pos _ (by omega)
 have hd1:decide (n<1)=false:=by simp;omega
 have hnz:(n==0)=false:=by simp;omega
 obtain ⟨r,hr⟩: ∃r,r=v%n:=⟨_,rfl⟩
 rw[←hr] at hr0 hr1 ⊢
 have HR:=Lib.hid hr
 by_cases h0:0≤v
 ·have e:v%n=r:=hr.symm
  have e2:v.tmod n=r:=by rw[Int.tmod_eq_emod_of_nonneg h0];exact hr.symm
  have hd:decide (r<0)=false:=by simp;omega
  clear hr
  go_enter Tryz.func23,Tryz.ntmps23
  go_wp2
  go_ret
  exact ⟨rfl,rfl⟩
 ·obtain ⟨q,hq⟩: ∃q,q=v.tmod n:=⟨_,rfl⟩
  have hq2:q= -((-v)%n):=by
   rw[hq,←Int.neg_neg v,Int.neg_tmod,Int.neg_neg,Int.tmod_eq_emod_of_nonneg (by omega)]
  have hm0:0≤(-v)%n:=Int.emod_nonneg _ (by omega)
  have hm1:(-v)%n<n:=Int.emod_lt_of_pos _ (by omega)
  have hdv:=Int.mul_ediv_add_emod (-v) n
  have hdv2:=Int.mul_ediv_add_emod v n
  have e2:v.tmod n=q:=hq.symm
  by_cases hz:q=0
  ·have hrz:r=0:=by
    rw[hr]
    have:(-v)%n=0:=by omega
    have hdvd:n ∣ -v:=Int.dvd_of_emod_eq_zero this
    exact Int.emod_eq_zero_of_dvd (Int.dvd_neg.1 hdvd)
   have hd:decide (q<0)=false:=by simp;omega
   have HZ:=Lib.hid (show q=r by omega)
   have hb1: -1000000≤q:=by omega
   have hb2:q≤1000000:=by omega
   clear hr hq hq2 hm0 hm1 hdv hdv2 hz hrz
   go_enter Tryz.func23,Tryz.ntmps23
   go_wp2
   go_ret
   exact ⟨by rw[HZ.out];rfl,rfl⟩
  ·have hrq:r=q+n:=by
    have h1:(v - q)%n=0:=by
     rw[hq,Int.sub_emod,←hq]
     have:v.tmod n%n=v%n:=by
      have:=Int.mul_tdiv_add_tmod v n
      have e3:v%n=(n*v.tdiv n+v.tmod n)%n:=by rw[this]
      rw[e3,Int.add_emod,Int.mul_emod_right,Int.zero_add,Int.emod_emod]
     rw[hq,this];simp
    obtain ⟨c,hc⟩:=Int.dvd_of_emod_eq_zero h1
    rw[hr]
    have e4:v=(q+n)+n* (c - 1):=by rw[Int.mul_sub];omega
    rw[e4,Int.add_mul_emod_self_left,Int.emod_eq_of_lt (by omega) (by omega)]
   have hd:decide (q<0)=true:=by simp;omega
   have hqn:q<0:=by omega
   have HZ:=Lib.hid (show q+n=r by omega)
   have hb1: -1000000≤q:=by omega
   clear hr hq hq2 hm0 hm1 hdv hdv2 hz hrq hr0 hr1
   go_enter Tryz.func23,Tryz.ntmps23
   go_wp2
   go_ret
   exact ⟨by rw[HZ.out];rfl,rfl⟩
end Go.Proofs.YtaangaogmnlljaaGreatDoor
namespace Go.Proofs.YtaangaogmnlljaaGreatDoor
open Go.ChangeShapes Go.WideShapes Go.ChangeAt Go.RowKit
theorem laidOut:laidOutB Tryz.prog=true:=by kernel_rfl
section
variable {H:Type} {enc:TypeId×Value→H}
theorem stays {t:TypeId} (hr:Tryz.prog.readableRec t=true) (hrow:t<Tryz.prog.types.size) {W W':World} {sp:Nat→Bool} {v:Value} {d:DataW H} {ps:List MemPlace}
  (h:DataW.Trod enc Tryz.prog W 0 (fun _=>true) true t v d ps) (hb:Below W.heap.size W W') (hlt: ∀x∈ps,x.block<W.heap.size) (hs: ∀x∈ps,sp x.block=true):
  DataW.Trod enc Tryz.prog W' 0 sp true t v d ps:=
 WideElems.Trod_stays laidOut hr hrow h (fun x hx=>hb.same (hlt x hx)) hs
theorem post_of_below {P:Program} {f:Func} {s:ChangeSpec} {apart fresh handsOn again:Bool} {W W':World} {args:Array Value} {v:Value} {ds gs:List (DataW H)} {before pa pv:List MemPlace}
  (hW:DataW.Whole enc P f.params.toList s.vars apart W args.toList ds gs before)
  (hres: ∀(b:Nat) (sp:Nat→Bool) (hd:Bool),DataW.TrodAll enc P W' b sp hd f.resultTypes.toList (v.resultList f.resultTypes.size) (s.fn H (ds++gs)).results [])
  (hargs: ∀sp:Nat→Bool,(∀p∈before,sp p.block=true)→DataW.TrodAll enc P W' 0 sp true f.params.toList args.toList (s.fn H (ds++gs)).args pa)
  (hvars: ∀sp:Nat→Bool,(∀p∈before,sp p.block=true)→DataW.TrodVars enc P W' sp s.vars (s.fn H (ds++gs)).vars pv)
  (hps:before=pa++pv) (hb:Below W.heap.size W W')
  (hok: ∀(j:Nat) (t:TypeId) (r:Value),f.resultTypes[j]?=some t→(v.resultList f.resultTypes.size)[j]?=some r→Value.okWide P W' .any 0 t r):
  s.post enc P f apart fresh handsOn again W args v W':=by
 have hlt: ∀p∈before,p.block<W.heap.size:=fun p hp=>hW.lt p hp
 have hold: ∀p∈before,(fun b=>decide (b<W.heap.size)) p.block=true:=fun p hp=>by simpa using hlt p hp
 refine ⟨ds,gs,before,[],pa,pv,hW,hres _ _ _,hargs _ hold,hvars _ hold,World.keptBut_mono (fun p hp=>⟨hp,?_⟩) (hb.frame (· ∈before)),fun _=>?_⟩
 ·rw[hps,List.mem_append] at hp
  exact Or.inr hp
 ·obtain ⟨_,_,_,_,_,hz,hn⟩:=hW
  refine ⟨hok,_,_,([]++pa)++pv,⟨[]++pa,pv,trodAll_append (hargs _ (fun _ _=>rfl)) (hres _ _ _),hvars _ (fun _ _=>rfl),rfl,?_,?_⟩,?_⟩
  ·intro b off hp
   have hin:MemPlace.cell b off∈before:=by rw[hps];simpa using hp
   rw[hb.frozen (hlt _ hin)]
   exact hz b off hin
  ·intro ha
   have:=hn ha
   rw[hps] at this
   simpa using this
  ·intro p hp _
   rw[hps]
   simpa using hp
end
end Go.Proofs.YtaangaogmnlljaaGreatDoor
