/- Part 4 of what the proof stands on: Errs. -/
import Derived.Test.YtaangaogmnlljaaGreatDoorProg
import Derived.Test.YtaangaogmnlljaaGreatDoorP02
set_option linter.unusedVariables false
set_option maxHeartbeats 40000000
namespace Go.Proofs.YtaangaogmnlljaaGreatDoor.Errs
open Go.RowKit Go.Extern.Stop Go.Stop Go.Extern
theorem as_nil (t:Value) (w:World):
  Calls Tryz.prog 35 #[.nilIface,t] w fun e w'=>e= .returned (.bool false)∧w'=w:=by
 go_enter Tryz.func35,Tryz.ntmps35
 go_wp2
 go_ret
 exact ⟨rfl,rfl⟩
theorem XvalueOf27 (t:Addr) (w:World):(ReflectliteValue.unpack (.iface 94 (.pointer (some t)))).run Tryz.prog w
  = .ok (.agg #[.pointer (some ⟨4,94,none⟩), .pointer (some ⟨w.heap.size,0,none⟩), .int .u64 150]) (w.alloc (.cells #[.pointer (some t)] 94)):=by kernel_rfl
theorem Xtype27 (a:Addr) (w:World):(ReflectliteValue.methodAny (ReflectliteValue.valueError "reflectlite.Value.Type" 0) (fun t _ _ _=>ReflectliteType.toType t) #[.agg #[.pointer (some ⟨4,94,none⟩), .pointer (some a), .int .u64 150]]).run Tryz.prog w
  = .ok (.iface 369 (.agg #[.pointer (some ⟨4,94,none⟩)])) w:=by kernel_rfl
theorem XmethodKind (h:Value) (w:World):(Go.method 671 369 (.agg #[h]) "Kind").run Tryz.prog w= .ok (395,h) w:=by kernel_rfl
theorem Xkind27 (w:World):((ReflectliteType.abiMethod fun t=>(fun a:Nat=>Value.int IntKind.u8 (a:Int))<$>Rtype.kind t) #[.pointer (some ⟨4,94,none⟩)]).run Tryz.prog w= .ok (.int .u8 22) w:=by kernel_rfl
theorem Xkind25 (w:World):((ReflectliteType.abiMethod fun t=>(fun a:Nat=>Value.int IntKind.u8 (a:Int))<$>Rtype.kind t) #[.pointer (some ⟨4,92,none⟩)]).run Tryz.prog w= .ok (.int .u8 22) w:=by kernel_rfl
theorem rlm (z:Sem Value) (f:TypeId→Addr→Nat→Nat→Sem Value) (v:Value):
  ReflectliteValue.method z f #[v]=(do match←ReflectliteValue.parts v with|none=>z|some (t,a,fl)=>f t a fl (fl%32)):=rfl
theorem Xparts27 (a:Addr) (w:World):(ReflectliteValue.parts (.agg #[.pointer (some ⟨4,94,none⟩), .pointer (some a), .int .u64 150])).run Tryz.prog w= .ok (some (94,a,150)) w:=by kernel_rfl
theorem XisNil27 (a p:Addr) (W:World) (ha:W.cell? a=some (.pointer (some p))):
  (ReflectliteValue.method (ReflectliteValue.valueError "reflectlite.Value.IsNil" 0) ReflectliteValue.isNil #[.agg #[.pointer (some ⟨4,94,none⟩), .pointer (some a), .int .u64 150]]).run Tryz.prog W= .ok (.bool false) W:=by
 rw[rlm]
 simp only[Sem.run_bind,Xparts27,Result.andThen]
 simp[ReflectliteValue.isNil,loadVar,isAgg,underlying,Tryz.underlying94,ha,Result.andThen]
theorem XmethodElem (h:Value) (w:World):(Go.method 671 369 (.agg #[h]) "Elem").run Tryz.prog w= .ok (418, .agg #[h]) w:=by kernel_rfl
theorem XmethodImplements (h:Value) (w:World):(Go.method 671 369 (.agg #[h]) "Implements").run Tryz.prog w= .ok (419, .agg #[h]) w:=by kernel_rfl
theorem XmethodAssignableTo (h:Value) (w:World):(Go.method 671 369 (.agg #[h]) "AssignableTo").run Tryz.prog w= .ok (416, .agg #[h]) w:=by kernel_rfl
theorem Xelem27 (w:World):(ReflectliteType.method ReflectliteType.elem #[.agg #[.pointer (some ⟨4,94,none⟩)]]).run Tryz.prog w= .ok (.iface 369 (.agg #[.pointer (some ⟨4,92,none⟩)])) w:=by kernel_rfl
theorem Ximplements25 (w:World):(ReflectliteType.relation "Implements" ReflectliteType.implements_ #[.agg #[.pointer (some ⟨4,92,none⟩)], .iface 369 (.agg #[.pointer (some ⟨4,29,none⟩)])]).run Tryz.prog w= .ok (.bool true) w:=by kernel_rfl
theorem XtypeOf25 (v:Value) (w:World):(ReflectliteType.typeOf #[.iface 92 v]).run Tryz.prog w= .ok (.iface 369 (.agg #[.pointer (some ⟨4,92,none⟩)])) w:=by kernel_rfl
theorem Xassignable25 (w:World):(ReflectliteType.relation "AssignableTo" ReflectliteType.assignableTo #[.agg #[.pointer (some ⟨4,92,none⟩)], .iface 369 (.agg #[.pointer (some ⟨4,92,none⟩)])]).run Tryz.prog w= .ok (.bool true) w:=by kernel_rfl
theorem XvalueOf25 (e:Addr) (w:World):(ReflectliteValue.unpack (.iface 92 (.pointer (some e)))).run Tryz.prog w
  = .ok (.agg #[.pointer (some ⟨4,92,none⟩), .pointer (some ⟨w.heap.size,0,none⟩), .int .u64 150]) (w.alloc (.cells #[.pointer (some e)] 92)):=by kernel_rfl
theorem XelemOf27 (w:World):(Rtype.elem? 94).run Tryz.prog w= .ok (some 92) w:=by kernel_rfl
theorem Xmk25 (p:Addr) (w:World):(ReflectliteValue.mk 92 p ReflectliteValue.flagAddr).run Tryz.prog w= .ok (.agg #[.pointer (some ⟨4,92,none⟩), .pointer (some p), .int .u64 406]) w:=by kernel_rfl
theorem XelemV27 (a p:Addr) (W:World) (ha:W.cell? a=some (.pointer (some p))):
  (ReflectliteValue.method (ReflectliteValue.valueError "reflectlite.Value.Elem" 0) ReflectliteValue.elem #[.agg #[.pointer (some ⟨4,94,none⟩), .pointer (some a), .int .u64 150]]).run Tryz.prog W
   = .ok (.agg #[.pointer (some ⟨4,92,none⟩), .pointer (some p), .int .u64 406]) W:=by
 rw[rlm]
 simp only[Sem.run_bind,Xparts27,Result.andThen]
 simp[ReflectliteValue.elem,loadVar,isAgg,underlying,Tryz.underlying94,ha,Result.andThen,XelemOf27,Xmk25]
theorem rls (v x:Value):ReflectliteValue.set #[v,x]=(do
  let (some (dst,a,fl),some (src,b,_)):=(←ReflectliteValue.parts v,←ReflectliteValue.parts x)
   |unsupported (.noEntry "extern/(internal/reflectlite.Value).Set.zeroValue")
  if fl/ReflectliteValue.flagAddr%2==0 then unsupported (.noEntry "extern/(internal/reflectlite.Value).Set.unaddressable")
  let val←loadVar src b
  if←Rtype.directlyAssignable dst src then storeVar dst a val
  else if←Rtype.implements dst src then
   if (←Rtype.kind src)==20 then
    match val with
    | .nilIface=>unsupported (.noEntry "extern/reflectlite: a nil value of one interface type handed on as a value of another")
    |_=>storeVar dst a val
   else storeVar dst a (.iface src val)
  else panicString ("reflectlite.Set: value of type " ++(←Rtype.spelt src)++ " is not assignable to type " ++(←Rtype.spelt dst))
  pure (.tuple #[])):=rfl
theorem Xparts25a (a:Addr) (w:World):(ReflectliteValue.parts (.agg #[.pointer (some ⟨4,92,none⟩), .pointer (some a), .int .u64 406])).run Tryz.prog w= .ok (some (92,a,406)) w:=by kernel_rfl
theorem Xparts25 (a:Addr) (w:World):(ReflectliteValue.parts (.agg #[.pointer (some ⟨4,92,none⟩), .pointer (some a), .int .u64 150])).run Tryz.prog w= .ok (some (92,a,150)) w:=by kernel_rfl
theorem Xdirect25 (w:World):(Rtype.directlyAssignable 92 92).run Tryz.prog w= .ok true w:=by kernel_rfl
theorem Xset25 (ta b e:Addr) (old:Value) (W:World) (hb:W.cell? b=some (.pointer (some e))) (ht:W.cell? ta=some old) (hf:W.frozen? ta=false):
  (ReflectliteValue.set #[.agg #[.pointer (some ⟨4,92,none⟩), .pointer (some ta), .int .u64 406], .agg #[.pointer (some ⟨4,92,none⟩), .pointer (some b), .int .u64 150]]).run Tryz.prog W
   = .ok (.tuple #[]) (W.setCell ta (.pointer (some e))):=by
 rw[rls]
 simp only[Sem.run_bind,Xparts25a,Xparts25,Result.andThen]
 simp[ReflectliteValue.flagAddr,loadVar,isAgg,underlying,Tryz.underlying92,hb,Result.andThen,Xdirect25,storeVar,Value.cells,storeCells,Addr.add]
 rw[run_store Tryz.prog W ta _ _ (by rfl)]
 simp[ht,hf]
theorem a16.q11 {P:Prop} (h:P:=by
 have h11:=@run_callFunc_extern Tryz.prog 181 _ (ReflectliteValue.method (ReflectliteValue.valueError "reflectlite.Value.Elem" 0) ReflectliteValue.elem) Tryz.func181 (by kernel_rfl) (by kernel_rfl) (by kernel_rfl) (by kernel_rfl)
 have h12:=@run_callFunc_extern Tryz.prog 182 _ ReflectliteValue.set Tryz.func182 (by kernel_rfl) (by kernel_rfl) (by kernel_rfl) (by kernel_rfl)
 have tO:=XtypeOf25
 have mA:=XmethodAssignableTo
 have a25:=Xassignable25
 have v25:=XvalueOf25
 exact m25):P:=h
theorem a16.q25 {P:Prop} (h:P:=by
 have htl:t.block<w.heap.size:=by
  rcases Nat.lt_or_ge t.block w.heap.size with h|h
  ·exact h
  ·simp[World.cell?,Array.getElem?_eq_none h] at ht0
 have el:=XelemV27 ⟨w.heap.size,0,none⟩ t (((w.alloc (.cells #[.pointer (some t)] 94)).alloc (.cells #[.pointer (some ⟨4,94,none⟩), .pointer (some ⟨w.heap.size,0,none⟩), .int .u64 150] 247)).alloc (.cells #[.pointer (some ⟨4,94,none⟩), .pointer (some ⟨w.heap.size,0,none⟩), .int .u64 150] 247)) (by rw[World.cell?_alloc_lt _ _ ⟨w.heap.size,0,none⟩ (by simp;omega)];simp)
 have st:=Xset25 t ⟨w.heap.size+1+1+1,0,none⟩ e old ((((w.alloc (.cells #[.pointer (some t)] 94)).alloc (.cells #[.pointer (some ⟨4,94,none⟩), .pointer (some ⟨w.heap.size,0,none⟩), .int .u64 150] 247)).alloc (.cells #[.pointer (some ⟨4,94,none⟩), .pointer (some ⟨w.heap.size,0,none⟩), .int .u64 150] 247)).alloc (.cells #[.pointer (some e)] 92))
  (by rw[World.cell?_alloc_at _ _ _ _ (by simp)];rfl)
  (by rw[World.cell?_alloc_lt _ _ t (by simp;omega),World.cell?_alloc_lt _ _ t (by simp;omega),World.cell?_alloc_lt _ _ t (by simp;omega),World.cell?_alloc_lt _ _ t htl];exact ht0)
  (by rw[World.frozen?_alloc_old _ _ t (by simp;omega),World.frozen?_alloc_old _ _ t (by simp;omega),World.frozen?_alloc_old _ _ t (by simp;omega),World.frozen?_alloc_old _ _ t (Nat.ne_of_lt htl)];exact hf0)
 go_enter Tryz.func35,Tryz.ntmps35
 go_wp2
 refine wp_loop_rounds 1 ?_
 rw[rounds_succ]
 go_wp2
 go_ret
 exact ⟨rfl,rfl⟩):P:=h
open a16 in
theorem as_hit (e t:Addr) (old:Value) (w:World) (hg:w.cell? ⟨0,0,none⟩=some (.iface 369 (.agg #[.pointer (some ⟨4,29,none⟩)]))) (ht0:w.cell? t=some old) (hf0:w.frozen? t=false):
  Calls Tryz.prog 35 #[.iface 92 (.pointer (some e)), .iface 94 (.pointer (some t))] w fun ev w'=>ev= .returned (.bool true)∧w'=((((w.alloc (.cells #[.pointer (some t)] 94)).alloc (.cells #[.pointer (some ⟨4,94,none⟩), .pointer (some ⟨w.heap.size,0,none⟩), .int .u64 150] 247)).alloc (.cells #[.pointer (some ⟨4,94,none⟩), .pointer (some ⟨w.heap.size,0,none⟩), .int .u64 150] 247)).alloc (.cells #[.pointer (some e)] 92)).setCell t (.pointer (some e)):=by
 exact m11
end Go.Proofs.YtaangaogmnlljaaGreatDoor.Errs
namespace Go.Proofs.YtaangaogmnlljaaGreatDoor.Errs
open Go.RowKit Go.Extern.Stop Go.Stop Go.Extern
def IsErr (w:World):List (ByteArray×Int)→Int→Value→Prop
 |[],k,v=>v= .iface 86 (.int .i64 k)
 |(s,n)::r,k,v=> ∃b v',v= .iface 92 (.pointer (some ⟨b,0,none⟩))∧b<w.heap.size∧w.cell? ⟨b,0,none⟩=some (.string s)∧w.cell? ⟨b,1,none⟩=some (.int .i64 n)∧w.cell? ⟨b,2,none⟩=some v'∧IsErr w r k v'
theorem IsErr.below {w w':World} (hb:Below w.heap.size w w'): ∀{r:List (ByteArray×Int)} {k:Int} {v:Value},IsErr w r k v→IsErr w' r k v
 |[],_,_,h=>h
 |(s,n)::r,k,v,h=>by
  obtain ⟨b,v',h1,h2,h3,h4,h5,h6⟩:=h
  exact ⟨b,v',h1,Nat.lt_of_lt_of_le h2 hb.size,(hb.cell (p:=⟨b,0,none⟩) h2).trans h3,(hb.cell (p:=⟨b,1,none⟩) h2).trans h4,(hb.cell (p:=⟨b,2,none⟩) h2).trans h5,IsErr.below hb h6⟩
theorem IsErr.form {w:World} {r:List (ByteArray×Int)} {k:Int} {v:Value} (h:IsErr w r k v): ∃t x,v= .iface t x:=by
 cases r with
 |nil=>exact ⟨_,_,h⟩
 |cons x r=>obtain ⟨b,v',h1,_⟩:=h;exact ⟨_,_,h1⟩
theorem run_equalIn_iface_int {P:Program} (w:World) (d:Nat) {ti tn:TypeId} {ms:Array (String×TypeId)} {i:TypeInfo} {k:IntKind} (a b:Int)
  (hi:P.underlying ti=some (.interface ms)) (hn:P.underlying tn=some (.int k)) (hinfo:P.info? tn=some i) (hcomp:i.comparable=true):
  (Op.equalIn (d+2) ti (.iface tn (.int k a)) (.iface tn (.int k b))).run P w= .ok (a==b) w:=by
 simp[Op.equalIn,run_underlying hi,run_underlying hn,typeInfo,hinfo,hcomp]
theorem run_eql_iface_int {P:Program} (w:World) {ti tn:TypeId} {ms:Array (String×TypeId)} {i:TypeInfo} {k:IntKind} (a b:Int)
  (hi:P.underlying ti=some (.interface ms)) (hn:P.underlying tn=some (.int k)) (hinfo:P.info? tn=some i) (hcomp:i.comparable=true):
  (binOp .eql ti (.iface tn (.int k a)) (.iface tn (.int k b))).run P w= .ok (.bool (a==b)) w:=by
 simp only[binOp]
 simp[Op.equal,Op.maxDepth,run_equalIn_iface_int w 9998 a b hi hn hinfo hcomp]
theorem isTypeOf (v:Value) (w:World):(Extern.ReflectliteType.typeOf #[.iface 86 v]).run Tryz.prog w= .ok (.iface 369 (.agg #[.pointer (some ⟨4,86,none⟩)])) w:=by kernel_rfl
theorem isComparable (w:World):(callFunc 417 #[.agg #[.pointer (some ⟨4,86,none⟩)]]).run Tryz.prog w= .ok (.value (.bool true)) w:=by kernel_rfl
theorem isMethodComparable (v:Value) (w:World):(Go.method 671 369 v "Comparable").run Tryz.prog w= .ok (417,v) w:=by kernel_rfl
theorem errComp:(Tryz.prog.info? 86).map (·.comparable)=some true:=by kernel_rfl
theorem noIsE (v:Value) (xT:TypeId) (w:World):(Instr.typeAssert (.iface 86 v) xT 449 true).run Tryz.prog w= .ok (.tuple #[.nilIface, .bool false]) w:=run_typeAssert_lacksB Tryz.underlying449 (by kernel_rfl) (by kernel_rfl) v xT w
theorem noAsE (v:Value) (xT:TypeId) (w:World):(Instr.typeAssert (.iface 86 v) xT 373 true).run Tryz.prog w= .ok (.tuple #[.nilIface, .bool false]) w:=run_typeAssert_lacksB Tryz.underlying373 (by kernel_rfl) (by kernel_rfl) v xT w
theorem noUnwrapE (v:Value) (xT:TypeId) (w:World):(Instr.typeAssert (.iface 86 v) xT 376 true).run Tryz.prog w= .ok (.tuple #[.nilIface, .bool false]) w:=run_typeAssert_lacksB Tryz.underlying376 (by kernel_rfl) (by kernel_rfl) v xT w
theorem noUnwrapsE (v:Value) (xT:TypeId) (w:World):(Instr.typeAssert (.iface 86 v) xT 378 true).run Tryz.prog w= .ok (.tuple #[.nilIface, .bool false]) w:=run_typeAssert_lacksB Tryz.underlying378 (by kernel_rfl) (by kernel_rfl) v xT w
theorem noIsW (v:Value) (xT:TypeId) (w:World):(Instr.typeAssert (.iface 92 v) xT 449 true).run Tryz.prog w= .ok (.tuple #[.nilIface, .bool false]) w:=run_typeAssert_lacksB Tryz.underlying449 (by kernel_rfl) (by kernel_rfl) v xT w
theorem hasUnwrapW (v:Value) (xT:TypeId) (w:World):(Instr.typeAssert (.iface 92 v) xT 376 true).run Tryz.prog w= .ok (.tuple #[.iface 92 v, .bool true]) w:=run_typeAssert_hasB Tryz.underlying376 (by kernel_rfl) v xT w
theorem methodUnwrap (v:Value) (w:World):(Go.method 671 92 v "Unwrap").run Tryz.prog w= .ok (400,v) w:=by kernel_rfl
theorem unwrap_at (b:Nat) (v:Value) (w:World) (h:w.cell? ⟨b,2,none⟩=some v):Calls Tryz.prog 400 #[.pointer (some ⟨b,0,none⟩)] w fun e w'=>e= .returned v∧w=w':=by
 go_enter Tryz.func400,Tryz.ntmps400
 go_wp2
 go_ret
 exact ⟨rfl,rfl⟩
theorem is_loop (v0:Value) (r0:List (ByteArray×Int)) (k k':Int) (w:World) (h0:IsErr w r0 k v0):
  Calls Tryz.prog 180 #[v0, .iface 86 (.int .i64 k'), .bool true] w fun e w'=>e= .returned (.bool (k==k'))∧w=w':=by
 obtain ⟨i,hi,hcmp⟩:=Option.map_eq_some_iff.1 errComp
 have nE:=noIsE
 have uE:=noUnwrapE
 have vE:=noUnwrapsE
 have nW:=noIsW
 have uW:=hasUnwrapW
 have mU:=methodUnwrap
 have heq:=fun (W:World) (a b:Int)=>run_eql_iface_int (P:=Tryz.prog) W a b Tryz.underlying29 Tryz.underlying86 hi hcmp
 have hne:=fun (W:World) (x y:Value)=>run_eql_iface_types (P:=Tryz.prog) 92 86 x y Tryz.underlying29 (by decide) W
 obtain ⟨bb,hbb⟩: ∃bb,bb=(k==k'):=⟨_,rfl⟩
 rw[←hbb]
 have HB:=Lib.hid hbb
 clear hbb
 go_enter Tryz.func180,Tryz.ntmps180
 go_wp2
 go_loopg [0] r0.length (fun g v wr=>w=wr∧ ∃r,g=r.length∧IsErr w r k v)
 case atStart=>exact ⟨rfl,r0,rfl,h0⟩
 case round=>
  obtain ⟨rfl,r,rfl,hr⟩:=hrel
  clear h0
  cases r with
  |nil=>
   have hv:u0= .iface 86 (.int .i64 k):=hr
   subst hv
   clear hr
   by_cases hkk:(k==k')=true
   ·obtain rfl:bb=true:=by rw[HB.out];exact hkk
    go_wp2
    go_ret
    exact ⟨rfl,rfl⟩
   ·have hkf:(k==k')=false:=by simpa using hkk
    clear hkk
    obtain rfl:bb=false:=by rw[HB.out];exact hkf
    go_wp2
    go_ret
    exact ⟨rfl,rfl⟩
  |cons x r=>
   obtain ⟨s,n⟩:=x
   obtain ⟨b,v',rfl,h2,h3,h4,h5,h6⟩:=hr
   have hU:=Lib.hid (unwrap_at b v' w h5)
   have H6:=Lib.hid h6
   obtain ⟨t',x',rfl⟩:=h6.form
   clear h3 h4 h5 h6
   go_wp2_with (go_at_call 400;refine hU.out.mono ?_;rintro e w' ⟨rfl,rfl⟩)
   go_roundg r.length
   case measure=>simp
   case rel=>exact ⟨rfl,r,rfl,H6.out⟩
theorem is_kind (v:Value) (r:List (ByteArray×Int)) (k k':Int) (w:World) (h:IsErr w r k v):
  Calls Tryz.prog 104 #[v, .iface 86 (.int .i64 k')] w fun e w'=>e= .returned (.bool (k==k'))∧w=w':=by
 have h8:=@run_callFunc_extern Tryz.prog 179 _ Extern.ReflectliteType.typeOf Tryz.func179 (by kernel_rfl) (by kernel_rfl) (by kernel_rfl) (by kernel_rfl)
 have tT:=isTypeOf
 have cT:=isComparable
 have mR:=isMethodComparable
 have HL:=Lib.hid (is_loop v r k k' w h)
 obtain ⟨t,x,rfl⟩:=h.form
 clear h
 go_enter Tryz.func104,Tryz.ntmps104
 go_wp2_with (go_at_call 180;refine HL.out.mono ?_;rintro e w' ⟨rfl,rfl⟩)
 go_ret
 exact ⟨rfl,rfl⟩
end Go.Proofs.YtaangaogmnlljaaGreatDoor.Errs
namespace Go.Proofs.YtaangaogmnlljaaGreatDoor.Errs
open Go.RowKit Go.Extern.Stop Go.Stop Go.Extern
theorem assignE (w:World):(ReflectliteType.relation "AssignableTo" ReflectliteType.assignableTo #[.agg #[.pointer (some ⟨4,86,none⟩)], .iface 369 (.agg #[.pointer (some ⟨4,92,none⟩)])]).run Tryz.prog w= .ok (.bool false) w:=by kernel_rfl
def Door (w:World):Prop:=w.cell? ⟨0,0,none⟩=some (.iface 369 (.agg #[.pointer (some ⟨4,29,none⟩)]))
theorem a17.q11 {P:Prop} (h:P:=by
 have mA:=XmethodAssignableTo
 exact m25):P:=h
theorem a17.q25 {P:Prop} (h:P:=by
 have tT:=isTypeOf
 have aE:=assignE
 have nA:=noAsE
 have uE:=noUnwrapE
 have vE:=noUnwrapsE
 go_enter Tryz.func35,Tryz.ntmps35
 go_wp2
 refine wp_loop_rounds 1 ?_
 rw[rounds_succ]
 go_wp2
 go_ret
 exact ⟨rfl,by repeat (first|exact Below.refl _ _|refine Below.alloc ?_ (by simp;try omega) _)⟩):P:=h
open a17 in
theorem as_leaf (k:Int) (t:Addr) (w:World) (hg:w.cell? ⟨0,0,none⟩=some (.iface 369 (.agg #[.pointer (some ⟨4,29,none⟩)]))):
  Calls Tryz.prog 35 #[.iface 86 (.int .i64 k), .iface 94 (.pointer (some t))] w fun ev w'=>ev= .returned (.bool false)∧Below w.heap.size w w':=by
 exact m11
end Go.Proofs.YtaangaogmnlljaaGreatDoor.Errs
namespace Go.Proofs.YtaangaogmnlljaaGreatDoor.Errs
open Go.RowKit Go.Extern.Stop Go.Stop Go.Extern
theorem kind_any (v:Value) (r:List (ByteArray×Int)) (k:Int) (w:World) (h:IsErr w r k v) (hk1:1≤k) (hk2:k≤10):
  Calls Tryz.prog 34 #[v] w fun e w'=>e= .returned (.int .i64 k)∧w=w':=by
 have HI:=Lib.hid (fun k'=>is_kind v r k k' w h)
 obtain ⟨t,x,rfl⟩:=h.form
 clear h
 go_enter Tryz.func34,Tryz.ntmps34
 go_wp2
 go_loopw [3,4] (fun f j wr=> ∃i:Nat,1≤i∧i≤11∧j= .int .i64 i∧f= .int .i64 (if k<i then k else 0)∧w=wr) (fun _ j _=>11 - (intOf j).toNat)
 case atStart=>exact ⟨1,by omega,by omega,rfl,by rw[if_neg (by omega)],rfl⟩
 case round=>
  obtain ⟨i,hi1,hi2,rfl,rfl,rfl⟩:=hrel
  by_cases hlt:(i:Int)≤10
  ·by_cases hki:k=i
   ·have hb:(k==(i:Int))=true:=by simp[hki]
    have hz:(if k<(i:Int) then k else 0)=0:=by rw[if_neg (by omega)]
    have hz2:(if k<((i+1:Nat):Int) then k else 0)=i:=by rw[if_pos (by omega)];exact hki
    rw[hz]
    have HZ:=Lib.hid hz2
    have HKI:=Lib.hid hki
    clear hz hz2 hki
    exact m79
   ·have hb:(k==(i:Int))=false:=by simp[hki]
    have hz:(if k<((i+1:Nat):Int) then k else 0)=(if k<(i:Int) then k else 0):=by
     by_cases h1:k<(i:Int)
     ·rw[if_pos h1,if_pos (by omega)]
     ·rw[if_neg h1,if_neg (by omega)]
    have HZ:=Lib.hid hz
    clear hz hki
    generalize (if k<(i:Int) then k else 0)=z at HZ ⊢
    exact m79
  ·rw[if_pos (show k<(i:Int) by omega)]
   go_wp2
   go_ret
   exact ⟨rfl,rfl⟩
end Go.Proofs.YtaangaogmnlljaaGreatDoor.Errs
namespace Go.Proofs.YtaangaogmnlljaaGreatDoor.Errs
open Go.RowKit Go.Extern.Stop Go.Stop Go.Extern
theorem below_drewN {B:Nat} {a w:World} (h:Below B a w) (n:Nat):Below B a (w.drewN n):=⟨h.os,h.tape,h.output,h.size,h.block⟩
theorem door_pos {w:World} (hd:Door w):0<w.heap.size:=by
 rcases Nat.eq_zero_or_pos w.heap.size with h0|h
 ·simp[Door,World.cell?,h0] at hd
 ·exact h
theorem Door.below {w w':World} {B:Nat} (hd:Door w) (hb:Below B w w') (hB:0<B):Door w':=(hb.cell (p:=⟨0,0,none⟩) hB).trans hd
theorem as_at (b tb:Nat) (old:Value) (w:World) (hd:Door w) (ht:w.cell? ⟨tb,0,none⟩=some old) (hf:w.frozen? ⟨tb,0,none⟩=false):
  Calls Tryz.prog 35 #[.iface 92 (.pointer (some ⟨b,0,none⟩)), .iface 94 (.pointer (some ⟨tb,0,none⟩))] w fun e w'=>
   e= .returned (.bool true)∧Below tb w w'∧w'.cell? ⟨tb,0,none⟩=some (.pointer (some ⟨b,0,none⟩))∧w'.frozen? ⟨tb,0,none⟩=false∧w.heap.size≤w'.heap.size:=by
 have htl:tb<w.heap.size:=by
  rcases Nat.lt_or_ge tb w.heap.size with h|h
  ·exact h
  ·simp[World.cell?,Array.getElem?_eq_none h] at ht
 refine (as_hit ⟨b,0,none⟩ ⟨tb,0,none⟩ old w hd ht hf).mono fun e w' ⟨he,hw⟩=>?_
 subst hw
 refine ⟨he,?_,?_,?_,by simp;omega⟩
 ·refine Below.setCell (p:=⟨tb,0,none⟩) ?_ (Nat.le_refl _) _
  repeat (first|exact Below.refl _ _|refine Below.alloc ?_ (by simp;try omega) _)
 ·exact m65
 ·rw[World.frozen?_setCell,World.frozen?_alloc_old _ _ ⟨tb,0,none⟩ (by simp;omega),World.frozen?_alloc_old _ _ ⟨tb,0,none⟩ (by simp;omega),World.frozen?_alloc_old _ _ ⟨tb,0,none⟩ (by simp;omega),World.frozen?_alloc_old _ _ ⟨tb,0,none⟩ (Nat.ne_of_lt htl)]
  exact hf
def IsFail (w:World) (r:List (ByteArray×Int)) (k:Int) (f:Value):Prop:=
 ∃fb A A' c c',f= .pointer (some ⟨fb,0,none⟩)∧fb<w.heap.size∧w.cell? ⟨fb,0,none⟩=some (.slice A r.length c)∧w.cell? ⟨fb,1,none⟩=some (.slice A' r.length c')∧w.cell? ⟨fb,2,none⟩=some (.int .i64 k)∧
  ∀i s n,r[i]?=some (s,n)→ ∃lb lo pb po,A=some ⟨lb,lo,none⟩∧A'=some ⟨pb,po,none⟩∧lb<w.heap.size∧pb<w.heap.size∧w.cell? ⟨lb,lo+i,none⟩=some (.string s)∧w.cell? ⟨pb,po+i,none⟩=some (.int .i64 n)
theorem IsFail.below {w w':World} (hb:Below w.heap.size w w') {r:List (ByteArray×Int)} {k:Int} {f:Value} (h:IsFail w r k f):IsFail w' r k f:=by
 obtain ⟨fb,A,A',c,c',h1,h2,h3,h4,h5,h6⟩:=h
 refine ⟨fb,A,A',c,c',h1,Nat.lt_of_lt_of_le h2 hb.size,(hb.cell (p:=⟨fb,0,none⟩) h2).trans h3,(hb.cell (p:=⟨fb,1,none⟩) h2).trans h4,(hb.cell (p:=⟨fb,2,none⟩) h2).trans h5,fun i s n hi=>?_⟩
 obtain ⟨lb,lo,pb,po,e1,e2,b1,b2,c1,c2⟩:=h6 i s n hi
 exact ⟨lb,lo,pb,po,e1,e2,Nat.lt_of_lt_of_le b1 hb.size,Nat.lt_of_lt_of_le b2 hb.size,(hb.cell (p:=⟨lb,_,none⟩) b1).trans c1,(hb.cell (p:=⟨pb,_,none⟩) b2).trans c2⟩
theorem drop_cons {α:Type} {r:List α} {i:Nat} {x:α} {suf:List α} (h:r.drop i=x::suf):r[i]?=some x∧r.drop (i+1)=suf∧i<r.length:=by
 have h1:(r.drop i)[0]?=some x:=by rw[h];rfl
 rw[List.getElem?_drop] at h1
 have h2:=(List.getElem?_eq_some_iff.1 h1).1
 refine ⟨by simpa using h1,?_,by omega⟩
 have e:r.drop (i+1)=(r.drop i).drop 1:=by rw[List.drop_drop]
 rw[e,h];rfl
set_option maxRecDepth 100000 in
theorem same_true (v f:Value) (r:List (ByteArray×Int)) (k:Int) (w:World) (h:IsErr w r k v) (hf:IsFail w r k f) (hd:Door w) (hk1:1≤k) (hk2:k≤10) (hlen:r.length≤1000):
  Calls Tryz.prog 10 #[v,f] w fun e w'=>e= .returned (.bool true)∧Below w.heap.size w w':=by
 have HK:=Lib.hid (fun q=>(kind_any v r k (w.drewN q) (h.below (below_drewN (Below.refl _ _) q)) hk1 hk2).mono fun _ _ ⟨he,hw⟩=>And.intro he hw.symm)
 have HF:=Lib.hid hf
 have HD:=Lib.hid hd
 obtain ⟨fb,A,A',c,c',rfl,hfb,f0,f1,f2,hfc⟩:=hf
 have HE:=Lib.hid h
 obtain ⟨t0,x0,rfl⟩:=h.form
 obtain ⟨n,hn⟩: ∃n,n=r.length:=⟨_,rfl⟩
 rw[←hn] at f0 f1 hlen
 have HN:=Lib.hid hn
 have HFC:=Lib.hid hfc
 clear h hfc hd hn
 have hne:(k !=k)=false:=by simp
 go_enter Tryz.func10,Tryz.ntmps10
 go_wp2_with fail
 go_quiet ((go_at_call 34;exact Calls.quiet_of_same (HK.out _)))
 go_wp2_with fail
 clear hne
 go_loopw [0,5] (fun e iv wr=> ∃q:Nat,q≤n∧iv= .int .i64 q∧Hid (IsErr wr (r.drop q) k e)∧Below w.heap.size w wr) (fun _ iv _=>n - (intOf iv).toNat)
 case atStart=>exact ⟨0,by omega,rfl,Lib.hid (by have:=HE.out.below (below_drewN (Below.refl w.heap.size w) nq);simpa using this),below_drewN (Below.refl _ _) nq⟩
 case round=>
  obtain ⟨q,hq,rfl,HEq,hb⟩:=hrel
  have f0':=(hb.cell (p:=⟨fb,0,none⟩) hfb).trans f0
  have f1':=(hb.cell (p:=⟨fb,1,none⟩) hfb).trans f1
  by_cases hlt:q<n
  ·have hne2:r.drop q≠ []:=by
    intro e
    have:=congrArg List.length e
    rw[List.length_drop,←HN.out] at this
    simp at this
    omega
   obtain ⟨⟨s,m⟩,suf,hsuf⟩:=List.exists_cons_of_ne_nil hne2
   obtain ⟨hr0,hr1,_⟩:=drop_cons hsuf
   have hE:=HEq.out
   rw[hsuf] at hE
   obtain ⟨b,v',rfl,hbb,e0,e1,e2,hE'⟩:=hE
   obtain ⟨lb,lo,pb,po,rfl,rfl,hlb,hpb,d0,d1⟩:=HFC.out q s m hr0
   have d0':=(hb.cell (p:=⟨lb,lo+q,none⟩) hlb).trans d0
   have d1':=(hb.cell (p:=⟨pb,po+q,none⟩) hpb).trans d1
   have hsz:=hb.size
   have HD1:Door (wr.alloc (.cells #[.pointer none] 92)):=(HD.out.below hb (door_pos HD.out)).below ((Below.refl wr.heap.size wr).alloc (Nat.le_refl _) _) (door_pos (HD.out.below hb (door_pos HD.out)))
   have HAS:=Lib.hid (as_at b wr.heap.size (.pointer none) (wr.alloc (.cells #[.pointer none] 92)).drew HD1 (World.cell?_alloc_at _ _ _ _ rfl) (World.frozen?_alloc_at _ _ _ _ rfl))
   have HS:=Lib.hid hsuf
   have HR1:=Lib.hid hr1
   have HE1:=Lib.hid hE'
   obtain ⟨t1,x1,rfl⟩:=hE'.form
   clear hsuf hr0 hr1 hE' HEq d0 d1 f0 f1 f2 hne2 HD1
   go_wp2_with fail
   have G0:=(((Below.refl wr.heap.size wr).alloc (Nat.le_refl _) (.cells #[.pointer none] 92)).drew)
   have k0:=(G0.cell (p:=⟨fb,0,none⟩) (Nat.lt_of_lt_of_le hfb hsz)).trans f0'
   have k1:=(G0.cell (p:=⟨fb,1,none⟩) (Nat.lt_of_lt_of_le hfb hsz)).trans f1'
   have k2:=(G0.cell (p:=⟨lb,lo+q,none⟩) (Nat.lt_of_lt_of_le hlb hsz)).trans d0'
   have k3:=(G0.cell (p:=⟨pb,po+q,none⟩) (Nat.lt_of_lt_of_le hpb hsz)).trans d1'
   have k4:=(G0.cell (p:=⟨b,0,none⟩) hbb).trans e0
   have k5:=(G0.cell (p:=⟨b,1,none⟩) hbb).trans e1
   have hlb2:=Nat.lt_of_lt_of_le hlb hsz
   have hpb2:=Nat.lt_of_lt_of_le hpb hsz
   have hfb2:=Nat.lt_of_lt_of_le hfb hsz
   refine wp_region_two_call (by kernel_rfl) rfl (by kernel_rfl) (by kernel_rfl) (by kernel_rfl) (by kernel_rfl) (by kernel_rfl) (by kernel_rfl) rfl rfl rfl (.iface 92 (.pointer (some ⟨b,0,none⟩))) (.iface 94 (.pointer (some ⟨wr.heap.size,0,none⟩))) (fun _=>by go_simp) (fun _=>by go_simp) (fun _=>by go_simp) (fun _=>by go_simp) rfl ?_
   intro K hK
   go_simp
   go_at_call 35
   refine HAS.out.mono ?_
   rintro e w2 ⟨rfl,hb2,hat,hatf,hsz2⟩
   have l0:=(hb2.cell (p:=⟨fb,0,none⟩) hfb2).trans k0
   have l1:=(hb2.cell (p:=⟨fb,1,none⟩) hfb2).trans k1
   have l2:=(hb2.cell (p:=⟨lb,lo+q,none⟩) hlb2).trans k2
   have l3:=(hb2.cell (p:=⟨pb,po+q,none⟩) hpb2).trans k3
   have l4:=(hb2.cell (p:=⟨b,0,none⟩) hbb).trans k4
   have l5:=(hb2.cell (p:=⟨b,1,none⟩) hbb).trans k5
   go_simp
   refine hK _ _ ?_
   clear hK
   repeat (first|go_big_quiet_step (fail) |quiet_step (fail))
   refine wpQuiet_nil ?_
   intro _ hw'
   obtain ⟨nq2,hw''⟩:=hw'
   subst hw''
   have e2':=(hb2.cell (p:=⟨b,2,none⟩) hbb).trans ((G0.cell (p:=⟨b,2,none⟩) hbb).trans e2)
   go_wp2
   go_roundw
   have hbw:=below_drewN ((G0.trans hb2)) nq2
   case rel=>exact ⟨q+1,by omega,by go_num,Lib.hid (by rw[HR1.out];exact HE1.out.below hbw),hb.trans (hbw.mono hsz)⟩
   case measure=>simp[intOf];omega
  ·obtain rfl:q=n:=by omega
   have hE:=HEq.out
   rw[List.drop_eq_nil_of_le (by rw[←HN.out];exact Nat.le_refl _)] at hE
   have hv:u0= .iface 86 (.int .i64 k):=hE
   subst hv
   have hsz:=hb.size
   have HD1:Door (wr.alloc (.cells #[.pointer none] 92)):=(HD.out.below hb (door_pos HD.out)).below ((Below.refl wr.heap.size wr).alloc (Nat.le_refl _) _) (door_pos (HD.out.below hb (door_pos HD.out)))
   have HAL:=Lib.hid (as_leaf k ⟨wr.heap.size,0,none⟩ (wr.alloc (.cells #[.pointer none] 92)) HD1)
   clear hE HEq f0 f1 f2 HD1
   go_wp2_with (go_at_call 35;refine HAL.out.mono ?_;rintro e w2 ⟨rfl,hb2⟩)
   go_ret
   exact ⟨rfl,(hb.alloc hsz _).trans (hb2.mono (by simp;omega))⟩
end Go.Proofs.YtaangaogmnlljaaGreatDoor.Errs
