/- Part 26 of what the proof stands on: LibLaid. -/
import Derived.ChangeVars
import Derived.Handed
import Derived.LaidHandle
import Derived.LaidLaws
import Derived.Shelf.Vars
import Derived.Stop.Joined
import Derived.Test.YtaangaogmnlljaaGreatDoorRows
import Derived.Test.YtaangaogmnlljaaGreatDoorP05
import Derived.Test.YtaangaogmnlljaaGreatDoorP25
set_option linter.unusedVariables false
namespace Go.Proofs.YtaangaogmnlljaaGreatDoor.Errs
open Go.ChangeShapes Go.WideShapes Go.RowKit
def laidL:List (String×DataW Unit):= [("unicode/utf8.acceptRanges",Rows.laid_unicode_utf8_acceptRanges),("errors.errorType",Rows.laid_errors_errorType),("unicode/utf8.first",Rows.laid_unicode_utf8_first)]
theorem et:Tryz.prog.globalNamed "errors.errorType" =some 0:=by kernel_rfl
theorem rt:(Tryz.prog.cutTypes.find? (·.1== "internal/reflectlite.rtype")).map (·.2)=some 369:=by kernel_rfl
theorem oneRow:((List.range 571).filter fun t=>Tryz.prog.rowNamed t [101,114,114,111,114])= [29]:=by kernel_rfl
theorem typesSize:Tryz.prog.types.size=571:=by kernel_rfl
theorem laidHandles:(laidL.filter fun x=>x.2.handleName?.isSome)= [("errors.errorType",Rows.laid_errors_errorType)]:=by kernel_rfl
theorem handles_of {P:Program} {l:List (String×DataW Unit)} {W:World} (h:laidMetH P l W) {fl:List (String×DataW Unit)} (e:(l.filter fun x=>x.2.handleName?.isSome)=fl) (hne:fl≠ []):handlesMet P fl W:=by
 unfold laidMetH at h
 rw[e] at h
 cases fl with
 |nil=>exact absurd rfl hne
 |cons x fl=>exact h.2
theorem door_of_laid {W:World} (h:laidMetH Tryz.prog laidL W):Door W:=by
 have h':=handles_of h laidHandles (by simp)
 obtain ⟨name,u,ty,e1,e2,e3,e4,e5⟩:=h' _ (List.mem_singleton.2 rfl)
 have en:name= [101,114,114,111,114]:=(Option.some.inj e1).symm
 subst en
 obtain rfl:=Option.some.inj (rt.symm.trans e2)
 have hm:ty∈(List.range 571).filter fun t=>Tryz.prog.rowNamed t [101,114,114,111,114]:=List.mem_filter.2 ⟨List.mem_range.2 (by rw[←typesSize];exact e3),e4⟩
 rw[oneRow] at hm
 obtain rfl:=List.mem_singleton.1 hm
 have hh:typeHandle Tryz.prog 29= .pointer (some ⟨4,29,none⟩):=by kernel_rfl
 rw[hh] at e5
 unfold Door
 simpa using World.var?_cell et e5 0
theorem maxDoor_of {W:World} (h:W.ShapedOpen Tryz.prog):Asm.MaxDoor W:=
 cell_of_shapedOpen_int (P:=Tryz.prog) (g:=1) (t:=3) (zero:=#[.int .i64 0]) h (of_decide_eq_true (by kernel_rfl)) (by kernel_rfl) rfl (by kernel_rfl) (by kernel_rfl) Tryz.underlying3
theorem maxDoor_lt {W:World} (h:Asm.MaxDoor W):1<W.heap.size:=by
 obtain ⟨m,hm⟩:=h
 rcases Nat.lt_or_ge 1 W.heap.size with h'|h'
 ·exact h'
 ·have:W.heap[1]?=none:=Array.getElem?_eq_none h'
  simp[World.cell?,this] at hm
def cellL:DataW Unit→List Value
 | .lit (.int k n)=> [.int k n]
 |_=> []
def cellsL:DataW Unit→List Value
 | .agg l=>l.flatMap cellL
 |_=> []
def cellsLL:DataW Unit→List Value
 | .agg l=>l.flatMap cellsL
 |_=> []
noncomputable def laidWorld (os:Os):World:=
 let w0:=World.holding Tryz.prog os ⟨#[],#[],[]⟩
 { w0 with heap:=((w0.heap.modify 0 fun
   | .cells _ t frozen=> .cells #[.iface 369 (.agg #[.pointer (some ⟨4,29,none⟩)])] t frozen
   |o=>o).modify 2 fun
   | .cells _ t frozen=> .cells (cellsL Rows.laid_unicode_utf8_first).toArray t frozen
   |o=>o).modify 3 fun
   | .cells _ t frozen=> .cells (cellsLL Rows.laid_unicode_utf8_acceptRanges).toArray t frozen
   |o=>o}
theorem laidWorld_met (os:Os) (args:Array Value):laidMetH Tryz.prog laidL ((laidWorld os).forCall (fun _ _=>0) ⟨#[],args,[]⟩).memory:=
 laidMetH_of_parts (laidMet_of_run' 1000 (by kernel_rfl) (by kernel_rfl)) (by kernel_rfl)
theorem returnsInHanded_and_shaped {H:Type} {enc:TypeId×Value→H} {a:Assume} {C:Checked} {os:Os} {f:FuncId} {fn:Func} {s:ChangeSpec} {conds:List PathCond} {apart fresh handsOn again:Bool} {X:World→Array Value→Prop}
  (hX: ∀(w w':World) (args:Array Value),w.heap=w'.heap→X w args→X w' args)
  (own:ownKnob C.prog.godebug=none) (started:os.Started) (noInit:C.prog.inits.idxOf? f=none) (hfn:C.prog.funcs[f]?=some fn)
  (witness: ∃(w:World) (tape:Tape) (i:Input),w.os=os∧(w.forCall tape i).Shaped C.prog∧i.vars= []∧Input.okWide C.prog (w.forCall tape i) .any w.heap.size f i∧
   ((s.pre enc C.prog fn conds apart (w.forCall tape i).memory i.args∧X (w.forCall tape i).memory i.args)∧sizedMet enc C.prog fn (OpenSpec.ofChange s) apart (w.forCall tape i).memory i.args)∧a.holds C.prog (lone (Frame.enter C.prog f i.args .normal) [] (w.forCall tape i)))
  (contract: ∀(W:World) (base:Nat) (args:Array Value) (ds gs:List (DataW H)) (before:List MemPlace),
   (∀(j:Nat) t v,fn.params[j]?=some t→args[j]?=some v→Value.okWide C.prog W .any base t v)→
   DataW.Whole enc C.prog fn.params.toList s.vars apart W args.toList ds gs before→
   conds.all (PathCond.test C.prog ⟨fn.params.toList,ds,s.plain.varTypes C.prog,gs⟩)=true→
   (DataW.weightsEach C.prog (fn.params.toList++s.plain.varTypes C.prog) (ds++gs)).all (· ≤reachBytes)=true→X W args→W.ShapedOpen C.prog→
   a.holds C.prog (lone (Frame.enter C.prog f args .normal) [] W)→
   Calls C.prog f args W fun e W'=> ∃v,e= .returned v∧s.post enc C.prog fn apart fresh handsOn again W args v W'):
  ReturnsInHanded a C os f .any (fun w args=>(s.pre enc C.prog fn conds apart w args∧X w args)∧sizedMet enc C.prog fn (OpenSpec.ofChange s) apart w args) (s.post enc C.prog fn apart fresh handsOn again):=by
 refine returnsInHanded_of_calls own started noInit witness ?_
 intro w tape i _ hsh _ hok hpre hholds
 obtain ⟨_,_,_,fn',hfn',_,_,_,_,hval⟩:=hok
 have e:fn'=fn:=Option.some.inj (hfn'.symm.trans hfn)
 subst e
 obtain ⟨⟨⟨ds,gs,before,hw,hc⟩,hx⟩,hz⟩:=hpre
 have hw':=DataW.Whole.of_heap (w':=w.forCall tape i) (by rfl) hw
 refine (contract (w.forCall tape i) w.heap.size i.args ds gs before hval hw' hc (hz.weights hw) (hX _ _ _ (by rfl) hx) hsh hholds).mono fun e W' ⟨v,he,hp⟩=>?_
 subst he
 exact ChangeSpec.post_blind hp
end Go.Proofs.YtaangaogmnlljaaGreatDoor.Errs
