/- Part 5 of what the proof stands on: Errs. -/
import Derived.Test.YtdlpmnmenhojfaaGreatDoorProg
import Derived.Test.YtdlpmnmenhojfaaGreatDoorR02
set_option linter.unusedVariables false
set_option maxHeartbeats 40000000
set_option maxRecDepth 100000
variable {zP:Prop}
namespace Go.Proofs.YtdlpmnmenhojfaaGreatDoor
open Go.IntKind renaming i64->Z,u64->J
open Go.Value renaming int->E,pointer->Y,slice->Sl
open Option renaming none->O,some->V
open Go.Obj renaming cells->Ce
open Go.Ending renaming returned->Rt
open Go.Proofs.Tryz renaming prog->Tp
namespace Errs
open Go.RowKit Go.Extern.Stop Go.Stop Go.Extern
theorem zun (t:Value) (w:World):
  Calls Tp 29 #[.nilIface,t] w fun e w'=>e=Rt (.bool false)∧w'=w:=by
 go_enter Tryz.func29,Tryz.ntmps29;go_wp2;go_ret;exact ⟨rfl,rfl⟩
theorem zh1 (t:Addr) (w:World):(ReflectliteValue.unpack (.iface 96 (Y (some t)))).run Tp w
  = .ok (.agg #[Y (V ⟨4,96,O⟩),Y (V ⟨w.heap.size,0,O⟩),E J 150]) (w.alloc (Ce #[Y (some t)] 96)):=Y4
theorem ztc (a:Addr) (w:World):(ReflectliteValue.methodAny (ReflectliteValue.valueError "reflectlite.Value.Type" 0) (fun t _ _ _=>ReflectliteType.toType t) #[.agg #[Y (V ⟨4,96,O⟩),Y (some a),E J 150]]).run Tp w
  = .ok (.iface 267 (.agg #[Y (V ⟨4,96,O⟩)])) w:=Y4
theorem zfs (h:Value) (w:World):(Go.method 565 267 (.agg #[h]) "Kind").run Tp w= .ok (326,h) w:=Y4
theorem zr5 (w:World):((ReflectliteType.abiMethod fun t=>(fun a:Nat=>Value.int IntKind.u8 (a:Int))<$>Rtype.kind t) #[Y (V ⟨4,96,O⟩)]).run Tp w= .ok (.int .u8 22) w:=Y4
theorem zrU (w:World):((ReflectliteType.abiMethod fun t=>(fun a:Nat=>Value.int IntKind.u8 (a:Int))<$>Rtype.kind t) #[Y (V ⟨4,94,O⟩)]).run Tp w= .ok (.int .u8 22) w:=Y4
theorem rlm (z:Sem Value) (f:TypeId→Addr→Nat→Nat→Sem Value) (v:Value):
  ReflectliteValue.method z f #[v]=(do match←ReflectliteValue.parts v with|none=>z|some (t,a,fl)=>f t a fl (fl%32)):=rfl
theorem zhe (a:Addr) (w:World):(ReflectliteValue.parts (.agg #[Y (V ⟨4,96,O⟩),Y (some a),E J 150])).run Tp w= .ok (some (96,a,150)) w:=Y4
theorem zpL (a p:Addr) (W:World) (ha:W.cell? a=V (Y (some p))):
  (ReflectliteValue.method (ReflectliteValue.valueError "reflectlite.Value.IsNil" 0) ReflectliteValue.isNil #[.agg #[Y (V ⟨4,96,O⟩),Y (some a),E J 150]]).run Tp W= .ok (.bool false) W:=by
 rw[rlm];simp only[Sem.run_bind,zhe,Result.andThen];simp[ReflectliteValue.isNil,loadVar,isAgg,underlying,Tryz.underlying96,ha,Result.andThen]
theorem zfY (h:Value) (w:World):(Go.method 565 267 (.agg #[h]) "Elem").run Tp w= .ok (348, .agg #[h]) w:=Y4
theorem Jm (h:Value) (w:World):(Go.method 565 267 (.agg #[h]) "Implements").run Tp w= .ok (349, .agg #[h]) w:=Y4
theorem KQ (h:Value) (w:World):(Go.method 565 267 (.agg #[h]) "AssignableTo").run Tp w= .ok (346, .agg #[h]) w:=Y4
theorem zrr (w:World):(ReflectliteType.method ReflectliteType.elem #[.agg #[Y (V ⟨4,96,O⟩)]]).run Tp w= .ok (.iface 267 (.agg #[Y (V ⟨4,94,O⟩)])) w:=Y4
theorem zcg (w:World):(ReflectliteType.relation "Implements" ReflectliteType.implements_ #[.agg #[Y (V ⟨4,94,O⟩)], .iface 267 (.agg #[Y (V ⟨4,30,O⟩)])]).run Tp w= .ok (.bool true) w:=Y4
theorem znf (v:Value) (w:World):(ReflectliteType.typeOf #[.iface 94 v]).run Tp w= .ok (.iface 267 (.agg #[Y (V ⟨4,94,O⟩)])) w:=Y4
theorem zcf (w:World):(ReflectliteType.relation "AssignableTo" ReflectliteType.assignableTo #[.agg #[Y (V ⟨4,94,O⟩)], .iface 267 (.agg #[Y (V ⟨4,94,O⟩)])]).run Tp w= .ok (.bool true) w:=Y4
theorem zhU (e:Addr) (w:World):(ReflectliteValue.unpack (.iface 94 (Y (some e)))).run Tp w
  = .ok (.agg #[Y (V ⟨4,94,O⟩),Y (V ⟨w.heap.size,0,O⟩),E J 150]) (w.alloc (Ce #[Y (some e)] 94)):=Y4
theorem zlu (w:World):(Rtype.elem? 96).run Tp w= .ok (some 94) w:=Y4
theorem zv4 (p:Addr) (w:World):(ReflectliteValue.mk 94 p ReflectliteValue.flagAddr).run Tp w= .ok (.agg #[Y (V ⟨4,94,O⟩),Y (some p),E J 406]) w:=Y4
theorem znO (a p:Addr) (W:World) (ha:W.cell? a=V (Y (some p))):
  (ReflectliteValue.method (ReflectliteValue.valueError "reflectlite.Value.Elem" 0) ReflectliteValue.elem #[.agg #[Y (V ⟨4,96,O⟩),Y (some a),E J 150]]).run Tp W
   = .ok (.agg #[Y (V ⟨4,94,O⟩),Y (some p),E J 406]) W:=by
 rw[rlm];simp only[Sem.run_bind,zhe,Result.andThen];simp[ReflectliteValue.elem,loadVar,isAgg,underlying,Tryz.underlying96,ha,Result.andThen,zlu,zv4]
theorem rls (v x:Value):ReflectliteValue.set #[v,x]=(do
  let (some (dst,a,fl),some (src,b,_)):=(←ReflectliteValue.parts v,←ReflectliteValue.parts x)
   |unsupported (.noEntry "extern/(internal/reflectlite.Value).Set.zeroValue")
  if fl/ReflectliteValue.flagAddr%2==0 then unsupported (.noEntry "extern/(internal/reflectlite.Value).Set.unaddressable")
  let val←loadVar src b
  if←Rtype.directlyAssignable dst src then storeVar dst a val
  else if←Rtype.implements dst src then
   if (←Rtype.kind src)==20 then
    match val with
    | .nilIface=>unsupported (.noEntry "extern/reflectlite: a nil value of one interface type handed on as a value of another")
    |_=>storeVar dst a val
   else storeVar dst a (.iface src val)
  else panicString ("reflectlite.Set: value of type " ++(←Rtype.spelt src)++ " is not assignable to type " ++(←Rtype.spelt dst))
  pure (.tuple #[])):=rfl
theorem zlU (a:Addr) (w:World):(ReflectliteValue.parts (.agg #[Y (V ⟨4,94,O⟩),Y (some a),E J 406])).run Tp w= .ok (some (94,a,406)) w:=Y4
theorem zqH (a:Addr) (w:World):(ReflectliteValue.parts (.agg #[Y (V ⟨4,94,O⟩),Y (some a),E J 150])).run Tp w= .ok (some (94,a,150)) w:=Y4
theorem zmi (w:World):(Rtype.directlyAssignable 94 94).run Tp w= .ok true w:=Y4
theorem zu4 (ta b e:Addr) (old:Value) (W:World) (hb:W.cell? b=V (Y (some e))) (ht:W.cell? ta=some old) (hf:W.frozen? ta=false):
  (ReflectliteValue.set #[.agg #[Y (V ⟨4,94,O⟩),Y (some ta),E J 406], .agg #[Y (V ⟨4,94,O⟩),Y (some b),E J 150]]).run Tp W
   = .ok (.tuple #[]) (W.setCell ta (Y (some e))):=by
 rw[rls];simp only[Sem.run_bind,zlU,zqH,Result.andThen];simp[ReflectliteValue.flagAddr,loadVar,isAgg,underlying,Tryz.underlying94,hb,Result.andThen,zmi,storeVar,Value.cells,storeCells,Addr.add];rw[run_store Tp W ta _ _ (by rfl)];simp[ht,hf]
theorem a18.Q18 (h:zP:=by
 have h11:=@run_callFunc_extern Tp 129 _ (ReflectliteValue.method (ReflectliteValue.valueError "reflectlite.Value.Elem" 0) ReflectliteValue.elem) Tryz.func129 Y4 Y4 Y4 Y4
 have h12:=@run_callFunc_extern Tp 130 _ ReflectliteValue.set Tryz.func130 Y4 Y4 Y4 Y4;have tO:=znf;have mA:=KQ;have a25:=zcf;have v25:=zhU;exact J31):zP:=h
theorem a18.Q31 (h:zP:=by
 have htl:t.block<w.heap.size:=by
  rcases Nat.lt_or_ge t.block w.heap.size with h|h
  ·exact h
  ·simp[World.cell?,Array.getElem?_eq_none h] at ht0
 have el:=znO ⟨w.heap.size,0,O⟩ t (((w.alloc (Ce #[Y (some t)] 96)).alloc (Ce #[Y (V ⟨4,96,O⟩),Y (V ⟨w.heap.size,0,O⟩),E J 150] 179)).alloc (Ce #[Y (V ⟨4,96,O⟩),Y (V ⟨w.heap.size,0,O⟩),E J 150] 179)) (by rw[World.cell?_alloc_lt _ _ ⟨w.heap.size,0,O⟩ Y8];simp)
 have st:=zu4 t ⟨w.heap.size+1+1+1,0,O⟩ e old ((((w.alloc (Ce #[Y (some t)] 96)).alloc (Ce #[Y (V ⟨4,96,O⟩),Y (V ⟨w.heap.size,0,O⟩),E J 150] 179)).alloc (Ce #[Y (V ⟨4,96,O⟩),Y (V ⟨w.heap.size,0,O⟩),E J 150] 179)).alloc (Ce #[Y (some e)] 94))
  (by rw[World.cell?_alloc_at _ _ _ _ Y7];rfl)
  (by rw[World.cell?_alloc_lt _ _ t Y8,World.cell?_alloc_lt _ _ t Y8,World.cell?_alloc_lt _ _ t Y8,World.cell?_alloc_lt _ _ t htl];exact ht0)
  (by rw[World.frozen?_alloc_old _ _ t Y8,World.frozen?_alloc_old _ _ t Y8,World.frozen?_alloc_old _ _ t Y8,World.frozen?_alloc_old _ _ t (Nat.ne_of_lt htl)];exact hf0)
 go_enter Tryz.func29,Tryz.ntmps29;go_wp2;refine wp_loop_rounds 1 ?_;rw[rounds_succ];go_wp2;go_ret;exact ⟨rfl,rfl⟩):zP:=h
open a18 in
theorem zt0 (e t:Addr) (old:Value) (w:World) (hg:w.cell? ⟨0,0,O⟩=V (.iface 267 (.agg #[Y (V ⟨4,30,O⟩)]))) (ht0:w.cell? t=some old) (hf0:w.frozen? t=false):
  Calls Tp 29 #[.iface 94 (Y (some e)), .iface 96 (Y (some t))] w fun ev w'=>ev= .returned (.bool true)∧w'=((((w.alloc (Ce #[Y (some t)] 96)).alloc (Ce #[Y (V ⟨4,96,O⟩),Y (V ⟨w.heap.size,0,O⟩),E J 150] 179)).alloc (Ce #[Y (V ⟨4,96,O⟩),Y (V ⟨w.heap.size,0,O⟩),E J 150] 179)).alloc (Ce #[Y (some e)] 94)).setCell t (Y (some e)):=by
 exact J18
def vN (w:World):List (ByteArray×Int)→Int→Value→Prop
 |[],k,v=>v= .iface 48 (E Z k)
 |(s,n)::r,k,v=> ∃b v',v= .iface 94 (Y (V ⟨b,0,O⟩))∧b<w.heap.size∧w.cell? ⟨b,0,O⟩=V (.string s)∧w.cell? ⟨b,1,O⟩=V (E Z n)∧w.cell? ⟨b,2,O⟩=some v'∧vN w r k v'
theorem vN.below {w w':World} (hb:Below w.heap.size w w'): ∀{r:List (ByteArray×Int)} {k:Int} {v:Value},vN w r k v→vN w' r k v
 |[],_,_,h=>h
 |(s,n)::r,k,v,h=>by
  obtain ⟨b,v',h1,h2,h3,h4,h5,h6⟩:=h
  exact ⟨b,v',h1,Nat.lt_of_lt_of_le h2 hb.size,(hb.cell (p:=⟨b,0,O⟩) h2).trans h3,(hb.cell (p:=⟨b,1,O⟩) h2).trans h4,(hb.cell (p:=⟨b,2,O⟩) h2).trans h5,vN.below hb h6⟩
theorem vN.form {w:World} {r:List (ByteArray×Int)} {k:Int} {v:Value} (h:vN w r k v): ∃t x,v= .iface t x:=by
 cases r with
 |nil=>exact ⟨_,_,h⟩
 |cons x r=>obtain ⟨b,v',h1,_⟩:=h;exact ⟨_,_,h1⟩
theorem bI {P:Program} (w:World) (d:Nat) {ti tn:TypeId} {ms:Array (String×TypeId)} {i:TypeInfo} {k:IntKind} (a b:Int)
  (hi:P.underlying ti=V (.interface ms)) (hn:P.underlying tn=V (.int k)) (hinfo:P.info? tn=some i) (hcomp:i.comparable=true):
  (Op.equalIn (d+2) ti (.iface tn (.int k a)) (.iface tn (.int k b))).run P w= .ok (a==b) w:=by
 simp[Op.equalIn,run_underlying hi,run_underlying hn,typeInfo,hinfo,hcomp]
theorem run_eql_iface_int {P:Program} (w:World) {ti tn:TypeId} {ms:Array (String×TypeId)} {i:TypeInfo} {k:IntKind} (a b:Int)
  (hi:P.underlying ti=V (.interface ms)) (hn:P.underlying tn=V (.int k)) (hinfo:P.info? tn=some i) (hcomp:i.comparable=true):
  (binOp .eql ti (.iface tn (.int k a)) (.iface tn (.int k b))).run P w= .ok (.bool (a==b)) w:=by
 simp only[binOp];simp[Op.equal,Op.maxDepth,bI w 9998 a b hi hn hinfo hcomp]
theorem ze1 (v:Value) (w:World):(Extern.ReflectliteType.typeOf #[.iface 48 v]).run Tp w= .ok (.iface 267 (.agg #[Y (V ⟨4,48,O⟩)])) w:=Y4
theorem zez (w:World):(callFunc 347 #[.agg #[Y (V ⟨4,48,O⟩)]]).run Tp w= .ok (.value (.bool true)) w:=Y4
theorem jc (v:Value) (w:World):(Go.method 565 267 v "Comparable").run Tp w= .ok (347,v) w:=Y4
theorem zsP:(Tryz.prog.info? 48).map (·.comparable)=some true:=Y4
theorem zxG (v:Value) (xT:TypeId) (w:World):(Instr.typeAssert (.iface 48 v) xT 348 true).run Tp w= .ok (.tuple #[.nilIface, .bool false]) w:=run_typeAssert_lacksB Tryz.underlying348 Y4 Y4 v xT w
theorem zwQ (v:Value) (xT:TypeId) (w:World):(Instr.typeAssert (.iface 48 v) xT 271 true).run Tp w= .ok (.tuple #[.nilIface, .bool false]) w:=run_typeAssert_lacksB Tryz.underlying271 Y4 Y4 v xT w
theorem zdO (v:Value) (xT:TypeId) (w:World):(Instr.typeAssert (.iface 48 v) xT 274 true).run Tp w= .ok (.tuple #[.nilIface, .bool false]) w:=run_typeAssert_lacksB Tryz.underlying274 Y4 Y4 v xT w
theorem zbg (v:Value) (xT:TypeId) (w:World):(Instr.typeAssert (.iface 48 v) xT 276 true).run Tp w= .ok (.tuple #[.nilIface, .bool false]) w:=run_typeAssert_lacksB Tryz.underlying276 Y4 Y4 v xT w
theorem zwp (v:Value) (xT:TypeId) (w:World):(Instr.typeAssert (.iface 94 v) xT 348 true).run Tp w= .ok (.tuple #[.nilIface, .bool false]) w:=run_typeAssert_lacksB Tryz.underlying348 Y4 Y4 v xT w
theorem zhN (v:Value) (xT:TypeId) (w:World):(Instr.typeAssert (.iface 94 v) xT 274 true).run Tp w= .ok (.tuple #[.iface 94 v, .bool true]) w:=run_typeAssert_hasB Tryz.underlying274 Y4 v xT w
theorem zdZ (v:Value) (w:World):(Go.method 565 94 v "Unwrap").run Tp w= .ok (340,v) w:=Y4
theorem znm (b:Nat) (v:Value) (w:World) (h:w.cell? ⟨b,2,O⟩=some v):Calls Tp 340 #[Y (V ⟨b,0,O⟩)] w fun e w'=>e= .returned v∧w=w':=by
 go_enter Tryz.func340,Tryz.ntmps340;go_wp2;go_ret;exact ⟨rfl,rfl⟩
theorem zso (v0:Value) (r0:List (ByteArray×Int)) (k k':Int) (w:World) (h0:vN w r0 k v0):
  Calls Tp 128 #[v0, .iface 48 (E Z k'), .bool true] w fun e w'=>e=Rt (.bool (k==k'))∧w=w':=by
 obtain ⟨i,hi,hcmp⟩:=Option.map_eq_some_iff.1 zsP;have nE:=zxG;have uE:=zdO;have vE:=zbg;have nW:=zwp;have uW:=zhN;have mU:=zdZ;have heq:=fun (W:World) (a b:Int)=>run_eql_iface_int (P:=Tp) W a b Tryz.underlying30 Tryz.underlying48 hi hcmp;have hne:=fun (W:World) (x y:Value)=>run_eql_iface_types (P:=Tp) 94 48 x y Tryz.underlying30 Y2 W;obtain ⟨bb,hbb⟩: ∃bb,bb=(k==k'):=⟨_,rfl⟩;rw[←hbb];have HB:=Y0 hbb;clear hbb;go_enter Tryz.func128,Tryz.ntmps128;go_wp2;go_loopg [0] r0.length (fun g v wr=>w=wr∧ ∃r,g=r.length∧vN w r k v);case atStart=>exact ⟨rfl,r0,rfl,h0⟩
 case round=>
  obtain ⟨rfl,r,rfl,hr⟩:=hrel
  clear h0
  cases r with
  |nil=>
   have hv:u0= .iface 48 (E Z k):=hr;subst hv;clear hr;by_cases hkk:(k==k')=true
   ·obtain rfl:bb=true:=by rw[HB.out];exact hkk
    go_wp2;go_ret;exact ⟨rfl,rfl⟩
   ·have SX:(k==k')=false:=by simpa using hkk
    clear hkk;obtain rfl:bb=false:=by rw[HB.out];exact SX
    go_wp2;go_ret;exact ⟨rfl,rfl⟩
  |cons x r=>
   obtain ⟨s,n⟩:=x;obtain ⟨b,v',rfl,h2,h3,h4,h5,h6⟩:=hr;have hU:=Y0 (znm b v' w h5);have H6:=Y0 h6;obtain ⟨t',x',rfl⟩:=h6.form;clear h3 h4 h5 h6;go_wp2_with (go_at_call 340;refine hU.out.mono ?_;rintro e w' ⟨rfl,rfl⟩);go_roundg r.length;case measure=>simp
   case rel=>exact ⟨rfl,r,rfl,H6.out⟩
theorem zsj (v:Value) (r:List (ByteArray×Int)) (k k':Int) (w:World) (h:vN w r k v):
  Calls Tp 64 #[v, .iface 48 (E Z k')] w fun e w'=>e=Rt (.bool (k==k'))∧w=w':=by
 have h8:=@run_callFunc_extern Tp 127 _ Extern.ReflectliteType.typeOf Tryz.func127 Y4 Y4 Y4 Y4;have tT:=ze1;have cT:=zez;have mR:=jc;have HL:=Y0 (zso v r k k' w h);obtain ⟨t,x,rfl⟩:=h.form;clear h;go_enter Tryz.func64,Tryz.ntmps64;go_wp2_with (go_at_call 128;refine HL.out.mono ?_;rintro e w' ⟨rfl,rfl⟩);go_ret;exact ⟨rfl,rfl⟩
theorem zrn (w:World):(ReflectliteType.relation "AssignableTo" ReflectliteType.assignableTo #[.agg #[Y (V ⟨4,48,O⟩)], .iface 267 (.agg #[Y (V ⟨4,94,O⟩)])]).run Tp w= .ok (.bool false) w:=Y4
def zay (w:World):Prop:=w.cell? ⟨0,0,O⟩=V (.iface 267 (.agg #[Y (V ⟨4,30,O⟩)]))
theorem a19.Q18 (h:zP:=by
 have mA:=KQ;exact J31):zP:=h
theorem a19.Q31 (h:zP:=by
 have tT:=ze1;have aE:=zrn;have nA:=zwQ;have uE:=zdO;have vE:=zbg;go_enter Tryz.func29,Tryz.ntmps29;go_wp2;refine wp_loop_rounds 1 ?_;rw[rounds_succ];go_wp2;go_ret;exact ⟨rfl,by repeat (first|exact Below.refl _ _|refine Below.alloc ?_ Y51 _)⟩):zP:=h
open a19 in
theorem zr0 (k:Int) (t:Addr) (w:World) (hg:w.cell? ⟨0,0,O⟩=V (.iface 267 (.agg #[Y (V ⟨4,30,O⟩)]))):
  Calls Tp 29 #[.iface 48 (E Z k), .iface 96 (Y (some t))] w fun ev w'=>ev= .returned (.bool false)∧Below w.heap.size w w':=by
 exact J18
theorem zn4 (v:Value) (r:List (ByteArray×Int)) (k:Int) (w:World) (h:vN w r k v) (hk1:1≤k) (hk2:k≤10):
  Calls Tp 28 #[v] w fun e w'=>e=Rt (E Z k)∧w=w':=by
 have HI:=Y0 (fun k'=>zsj v r k k' w h);obtain ⟨t,x,rfl⟩:=h.form;clear h;go_enter Tryz.func28,Tryz.ntmps28;go_wp2;go_loopw [3,4] (fun f j wr=> ∃i:Nat,1≤i∧i≤11∧j=E Z i∧f=E Z (if k<i then k else 0)∧w=wr) (fun _ j _=>11 - (intOf j).toNat);case atStart=>exact ⟨1,by omega,by omega,rfl,by rw[if_neg Y1],rfl⟩
 case round=>
  obtain ⟨i,hi1,hi2,rfl,rfl,rfl⟩:=hrel;by_cases hlt:(i:Int)≤10
  ·by_cases hki:k=i
   ·have hb:(k==(i:Int))=true:=by simp[hki]
    have hz:(if k<(i:Int) then k else 0)=0:=by rw[if_neg Y1]
    have hz2:(if k<((i+1:Nat):Int) then k else 0)=i:=by rw[if_pos Y1];exact hki
    rw[hz];have HZ:=Y0 hz2;have HKI:=Y0 hki;clear hz hz2 hki;exact zxz
   ·have hb:(k==(i:Int))=false:=by simp[hki]
    have hz:(if k<((i+1:Nat):Int) then k else 0)=(if k<(i:Int) then k else 0):=by
     by_cases h1:k<(i:Int)
     ·rw[if_pos h1,if_pos Y1]
     ·rw[if_neg h1,if_neg Y1]
    have HZ:=Y0 hz;clear hz hki;generalize (if k<(i:Int) then k else 0)=z at HZ ⊢;exact zxz
  ·rw[if_pos (show k<(i:Int) by omega)];go_wp2;go_ret;exact ⟨rfl,rfl⟩
theorem below_drewN {B:Nat} {a w:World} (h:Below B a w) (n:Nat):Below B a (w.drewN n):=⟨h.os,h.tape,h.output,h.size,h.block⟩
theorem KX {w:World} (hd:zay w):0<w.heap.size:=by
 rcases Nat.eq_zero_or_pos w.heap.size with h0|h
 ·simp[zay,World.cell?,h0] at hd
 ·exact h
theorem zay.below {w w':World} {B:Nat} (hd:zay w) (hb:Below B w w') (hB:0<B):zay w':=(hb.cell (p:=⟨0,0,O⟩) hB).trans hd
theorem zxI (b tb:Nat) (old:Value) (w:World) (hd:zay w) (ht:w.cell? ⟨tb,0,O⟩=some old) (hf:w.frozen? ⟨tb,0,O⟩=false):
  Calls Tp 29 #[.iface 94 (Y (V ⟨b,0,O⟩)), .iface 96 (Y (V ⟨tb,0,O⟩))] w fun e w'=>
   e=Rt (.bool true)∧Below tb w w'∧w'.cell? ⟨tb,0,O⟩=V (Y (V ⟨b,0,O⟩))∧w'.frozen? ⟨tb,0,O⟩=false∧w.heap.size≤w'.heap.size:=by
 have htl:tb<w.heap.size:=by
  rcases Nat.lt_or_ge tb w.heap.size with h|h
  ·exact h
  ·simp[World.cell?,Array.getElem?_eq_none h] at ht
 refine (zt0 ⟨b,0,O⟩ ⟨tb,0,O⟩ old w hd ht hf).mono fun e w' ⟨he,hw⟩=>?_;subst hw;refine ⟨he,?_,?_,?_,by simp;omega⟩
 ·refine Below.setCell (p:=⟨tb,0,O⟩) ?_ (Nat.le_refl _) _;repeat (first|exact Below.refl _ _|refine Below.alloc ?_ Y51 _)
 ·refine World.cell?_setCell_same' _ _ _ ?_;rw[World.cell?_alloc_lt _ _ ⟨tb,0,O⟩ Y8,World.cell?_alloc_lt _ _ ⟨tb,0,O⟩ Y8,World.cell?_alloc_lt _ _ ⟨tb,0,O⟩ Y8,World.cell?_alloc_lt _ _ ⟨tb,0,O⟩ htl,ht];rfl
 ·rw[World.frozen?_setCell,World.frozen?_alloc_old _ _ ⟨tb,0,O⟩ Y8,World.frozen?_alloc_old _ _ ⟨tb,0,O⟩ Y8,World.frozen?_alloc_old _ _ ⟨tb,0,O⟩ Y8,World.frozen?_alloc_old _ _ ⟨tb,0,O⟩ (Nat.ne_of_lt htl)];exact hf
def Bp (w:World) (r:List (ByteArray×Int)) (k:Int) (f:Value):Prop:=
 ∃fb A A' c c',f=Y (V ⟨fb,0,O⟩)∧fb<w.heap.size∧w.cell? ⟨fb,0,O⟩=V (.slice A r.length c)∧w.cell? ⟨fb,1,O⟩=V (.slice A' r.length c')∧w.cell? ⟨fb,2,O⟩=V (E Z k)∧
  ∀i s n,r[i]?=V (s,n)→ ∃lb lo pb po,A=some ⟨lb,lo,O⟩∧A'=some ⟨pb,po,O⟩∧lb<w.heap.size∧pb<w.heap.size∧w.cell? ⟨lb,lo+i,O⟩=V (.string s)∧w.cell? ⟨pb,po+i,O⟩=V (E Z n)
theorem Bp.below {w w':World} (hb:Below w.heap.size w w') {r:List (ByteArray×Int)} {k:Int} {f:Value} (h:Bp w r k f):Bp w' r k f:=by
 obtain ⟨fb,A,A',c,c',h1,h2,h3,h4,h5,h6⟩:=h;refine ⟨fb,A,A',c,c',h1,Nat.lt_of_lt_of_le h2 hb.size,(hb.cell (p:=⟨fb,0,O⟩) h2).trans h3,(hb.cell (p:=⟨fb,1,O⟩) h2).trans h4,(hb.cell (p:=⟨fb,2,O⟩) h2).trans h5,fun i s n hi=>?_⟩;obtain ⟨lb,lo,pb,po,e1,e2,b1,b2,c1,c2⟩:=h6 i s n hi;exact ⟨lb,lo,pb,po,e1,e2,Nat.lt_of_lt_of_le b1 hb.size,Nat.lt_of_lt_of_le b2 hb.size,(hb.cell (p:=⟨lb,_,O⟩) b1).trans c1,(hb.cell (p:=⟨pb,_,O⟩) b2).trans c2⟩
theorem drop_cons {α:Type} {r:List α} {i:Nat} {x:α} {suf:List α} (h:r.drop i=x::suf):r[i]?=some x∧r.drop (i+1)=suf∧i<r.length:=by
 have h1:(r.drop i)[0]?=some x:=by rw[h];rfl
 rw[List.getElem?_drop] at h1;have h2:=(List.getElem?_eq_some_iff.1 h1).1;refine ⟨by simpa using h1,?_,by omega⟩;have e:r.drop (i+1)=(r.drop i).drop 1:=by rw[List.drop_drop]
 rw[e,h];rfl
theorem zds (v f:Value) (r:List (ByteArray×Int)) (k:Int) (w:World) (h:vN w r k v) (hf:Bp w r k f) (hd:zay w) (hk1:1≤k) (hk2:k≤10) (hlen:r.length≤1000):
  Calls Tp 15 #[v,f] w fun e w'=>e=Rt (.bool true)∧Below w.heap.size w w':=by
 have HK:=Y0 (fun q=>(zn4 v r k (w.drewN q) (h.below (below_drewN (Below.refl _ _) q)) hk1 hk2).mono fun _ _ ⟨he,hw⟩=>And.intro he hw.symm);have HF:=Y0 hf;have HD:=Y0 hd;obtain ⟨fb,A,A',c,c',rfl,lQ,f0,f1,f2,hfc⟩:=hf;have HE:=Y0 h;obtain ⟨t0,x0,rfl⟩:=h.form;obtain ⟨n,hn⟩: ∃n,n=r.length:=⟨_,rfl⟩;rw[←hn] at f0 f1 hlen;have HN:=Y0 hn;have P8:=Y0 hfc;clear h hfc hd hn;have hne:(k !=k)=false:=Y7;go_enter Tryz.func15,Tryz.ntmps15;go_wp2_with fail;go_quiet ((go_at_call 28;exact Calls.quiet_of_same (HK.out _)));go_wp2_with fail;clear hne;go_loopw [0,5] (fun e iv wr=> ∃q:Nat,q≤n∧iv=E Z q∧Hid (vN wr (r.drop q) k e)∧Below w.heap.size w wr) (fun _ iv _=>n - (intOf iv).toNat)
 case atStart=>exact ⟨0,by omega,rfl,Y0 (by have:=HE.out.below (below_drewN (Below.refl w.heap.size w) nq);simpa using this),below_drewN (Below.refl _ _) nq⟩
 case round=>
  obtain ⟨q,hq,rfl,qB,hb⟩:=hrel;have Ab:=(hb.cell (p:=⟨fb,0,O⟩) lQ).trans f0;have Ad:=(hb.cell (p:=⟨fb,1,O⟩) lQ).trans f1;by_cases hlt:q<n
  ·have hne2:r.drop q≠ []:=by
    intro e;have:=congrArg List.length e;rw[List.length_drop,←HN.out] at this;simp at this;omega
   obtain ⟨⟨s,m⟩,suf,fP⟩:=List.exists_cons_of_ne_nil hne2;obtain ⟨hr0,hr1,_⟩:=drop_cons fP;have hE:=qB.out;rw[fP] at hE;obtain ⟨b,v',rfl,hbb,e0,e1,e2,hE'⟩:=hE;obtain ⟨lb,lo,pb,po,rfl,rfl,hlb,hpb,d0,d1⟩:=P8.out q s m hr0;have d0':=(hb.cell (p:=⟨lb,lo+q,O⟩) hlb).trans d0;have d1':=(hb.cell (p:=⟨pb,po+q,O⟩) hpb).trans d1;have hsz:=hb.size;have AP:zay (wr.alloc (Ce #[Y none] 94)):=(HD.out.below hb (KX HD.out)).below ((Below.refl wr.heap.size wr).alloc (Nat.le_refl _) _) (KX (HD.out.below hb (KX HD.out)));have PN:=Y0 (zxI b wr.heap.size (Y none) (wr.alloc (Ce #[Y none] 94)).drew AP (World.cell?_alloc_at _ _ _ _ rfl) (World.frozen?_alloc_at _ _ _ _ rfl));have HS:=Y0 fP;have lu:=Y0 hr1;have FZ:=Y0 hE';obtain ⟨t1,x1,rfl⟩:=hE'.form;clear fP hr0 hr1 hE' qB d0 d1 f0 f1 f2 hne2 AP;go_wp2_with fail
   have G0:=(((Below.refl wr.heap.size wr).alloc (Nat.le_refl _) (.cells #[Y none] 94)).drew);have k0:=(G0.cell (p:=⟨fb,0,O⟩) (Nat.lt_of_lt_of_le lQ hsz)).trans Ab;have k1:=(G0.cell (p:=⟨fb,1,O⟩) (Nat.lt_of_lt_of_le lQ hsz)).trans Ad;have k2:=(G0.cell (p:=⟨lb,lo+q,O⟩) (Nat.lt_of_lt_of_le hlb hsz)).trans d0';have k3:=(G0.cell (p:=⟨pb,po+q,O⟩) (Nat.lt_of_lt_of_le hpb hsz)).trans d1';have k4:=(G0.cell (p:=⟨b,0,O⟩) hbb).trans e0;have k5:=(G0.cell (p:=⟨b,1,O⟩) hbb).trans e1;have Mf:=Nat.lt_of_lt_of_le hlb hsz;have Mv:=Nat.lt_of_lt_of_le hpb hsz;have DL:=Nat.lt_of_lt_of_le lQ hsz;refine jw Y4 rfl Y4 Y4 Y4 Y4 Y4 Y4 rfl rfl rfl (.iface 94 (Y (V ⟨b,0,O⟩))) (.iface 96 (Y (V ⟨wr.heap.size,0,O⟩))) (fun _=>by go_simp) (fun _=>by go_simp) (fun _=>by go_simp) (fun _=>by go_simp) rfl ?_;intro K hK
   go_simp;go_at_call 29;refine PN.out.mono ?_;rintro e w2 ⟨rfl,hb2,hat,Sv,hsz2⟩;have l0:=(hb2.cell (p:=⟨fb,0,O⟩) DL).trans k0;have l1:=(hb2.cell (p:=⟨fb,1,O⟩) DL).trans k1;have l2:=(hb2.cell (p:=⟨lb,lo+q,O⟩) Mf).trans k2;have l3:=(hb2.cell (p:=⟨pb,po+q,O⟩) Mv).trans k3;have l4:=(hb2.cell (p:=⟨b,0,O⟩) hbb).trans k4;have l5:=(hb2.cell (p:=⟨b,1,O⟩) hbb).trans k5;go_simp;refine hK _ _ ?_;clear hK;repeat (first|go_big_quiet_step (fail) |quiet_step (fail))
   refine wpQuiet_nil ?_;intro _ hw';obtain ⟨Uh,hw''⟩:=hw';subst hw'';have e2':=(hb2.cell (p:=⟨b,2,O⟩) hbb).trans ((G0.cell (p:=⟨b,2,O⟩) hbb).trans e2);go_wp2;go_roundw;have hbw:=below_drewN ((G0.trans hb2)) Uh;case rel=>exact ⟨q+1,by omega,by go_num,Y0 (by rw[lu.out];exact FZ.out.below hbw),hb.trans (hbw.mono hsz)⟩
   case measure=>simp[intOf];omega
  ·obtain rfl:q=n:=Y1;have hE:=qB.out;rw[List.drop_eq_nil_of_le (by rw[←HN.out];exact Nat.le_refl _)] at hE;have hv:u0= .iface 48 (E Z k):=hE;subst hv;have hsz:=hb.size;have AP:zay (wr.alloc (Ce #[Y none] 94)):=(HD.out.below hb (KX HD.out)).below ((Below.refl wr.heap.size wr).alloc (Nat.le_refl _) _) (KX (HD.out.below hb (KX HD.out)));have PK:=Y0 (zr0 k ⟨wr.heap.size,0,O⟩ (wr.alloc (Ce #[Y none] 94)) AP);clear hE qB f0 f1 f2 AP;go_wp2_with (go_at_call 29;refine PK.out.mono ?_;rintro e w2 ⟨rfl,hb2⟩);go_ret;exact ⟨rfl,(hb.alloc hsz _).trans (hb2.mono Y8)⟩
end Errs
end Go.Proofs.YtdlpmnmenhojfaaGreatDoor
