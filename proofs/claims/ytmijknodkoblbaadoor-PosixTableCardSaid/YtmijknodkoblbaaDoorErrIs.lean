/- Errors of this program, pointers to api.At in a chain with an api.Err at its end: errors.Is asked of a kind, by Go's own text. -/
import Derived.Test.YtmijknodkoblbaaDoorProg
import Derived.WalkKit
import Derived.LaidEql
import Derived.Stop.Asserts
import Derived.RowKitTokens
import Derived.Outline
import Derived.Lib.Hide
import Derived.Deep.LoopGhost
namespace Go.Proofs.YtmijknodkoblbaaDoor.Errs
open Go.RowKit Go.Extern.Stop Go.Stop Go.Extern

/-- An error: the layers and places on its way, the outermost first, and the kind behind them. -/
def IsErr (w : World) : List (ByteArray × Int) → Int → Value → Prop
  | [], k, v => v = .iface 45 (.int .i64 k)
  | (s, n) :: r, k, v => ∃ b v', v = .iface 51 (.pointer (some ⟨b, 0, none⟩)) ∧ b < w.heap.size ∧ w.cell? ⟨b, 0, none⟩ = some (.string s) ∧ w.cell? ⟨b, 1, none⟩ = some (.int .i64 n) ∧ w.cell? ⟨b, 2, none⟩ = some v' ∧ IsErr w r k v'

theorem IsErr.below {w w' : World} (hb : Below w.heap.size w w') : ∀ {r : List (ByteArray × Int)} {k : Int} {v : Value}, IsErr w r k v → IsErr w' r k v
  | [], _, _, h => h
  | (s, n) :: r, k, v, h => by
    obtain ⟨b, v', h1, h2, h3, h4, h5, h6⟩ := h
    exact ⟨b, v', h1, Nat.lt_of_lt_of_le h2 hb.size, (hb.cell (p := ⟨b, 0, none⟩) h2).trans h3, (hb.cell (p := ⟨b, 1, none⟩) h2).trans h4, (hb.cell (p := ⟨b, 2, none⟩) h2).trans h5, IsErr.below hb h6⟩

theorem IsErr.form {w : World} {r : List (ByteArray × Int)} {k : Int} {v : Value} (h : IsErr w r k v) : ∃ t x, v = .iface t x := by
  cases r with
  | nil => exact ⟨_, _, h⟩
  | cons x r => obtain ⟨b, v', h1, _⟩ := h; exact ⟨_, _, h1⟩

theorem run_equalIn_iface_int {P : Program} (w : World) (d : Nat) {ti tn : TypeId} {ms : Array (String × TypeId)} {i : TypeInfo} {k : IntKind} (a b : Int)
    (hi : P.underlying ti = some (.interface ms)) (hn : P.underlying tn = some (.int k)) (hinfo : P.info? tn = some i) (hcomp : i.comparable = true) :
    (Op.equalIn (d + 2) ti (.iface tn (.int k a)) (.iface tn (.int k b))).run P w = .ok (a == b) w := by
  simp [Op.equalIn, run_underlying hi, run_underlying hn, typeInfo, hinfo, hcomp]
theorem run_eql_iface_int {P : Program} (w : World) {ti tn : TypeId} {ms : Array (String × TypeId)} {i : TypeInfo} {k : IntKind} (a b : Int)
    (hi : P.underlying ti = some (.interface ms)) (hn : P.underlying tn = some (.int k)) (hinfo : P.info? tn = some i) (hcomp : i.comparable = true) :
    (binOp .eql ti (.iface tn (.int k a)) (.iface tn (.int k b))).run P w = .ok (.bool (a == b)) w := by
  simp only [binOp]
  simp [Op.equal, Op.maxDepth, run_equalIn_iface_int w 9998 a b hi hn hinfo hcomp]

theorem isTypeOf (v : Value) (w : World) : (Extern.ReflectliteType.typeOf #[.iface 45 v]).run Tryd.prog w = .ok (.iface 80 (.agg #[.pointer (some ⟨1, 45, none⟩)])) w := by kernel_rfl
theorem isComparable (w : World) : (callFunc 55 #[.agg #[.pointer (some ⟨1, 45, none⟩)]]).run Tryd.prog w = .ok (.value (.bool true)) w := by kernel_rfl
theorem isMethodComparable (v : Value) (w : World) : (Go.method 225 80 v "Comparable").run Tryd.prog w = .ok (55, v) w := by kernel_rfl
theorem errComp : (Tryd.prog.info? 45).map (·.comparable) = some true := by kernel_rfl
theorem noIsE (v : Value) (xT : TypeId) (w : World) : (Instr.typeAssert (.iface 45 v) xT 92 true).run Tryd.prog w = .ok (.tuple #[.nilIface, .bool false]) w := run_typeAssert_lacksB Tryd.underlying92 (by kernel_rfl) (by kernel_rfl) v xT w
theorem noAsE (v : Value) (xT : TypeId) (w : World) : (Instr.typeAssert (.iface 45 v) xT 84 true).run Tryd.prog w = .ok (.tuple #[.nilIface, .bool false]) w := run_typeAssert_lacksB Tryd.underlying84 (by kernel_rfl) (by kernel_rfl) v xT w
theorem noUnwrapE (v : Value) (xT : TypeId) (w : World) : (Instr.typeAssert (.iface 45 v) xT 87 true).run Tryd.prog w = .ok (.tuple #[.nilIface, .bool false]) w := run_typeAssert_lacksB Tryd.underlying87 (by kernel_rfl) (by kernel_rfl) v xT w
theorem noUnwrapsE (v : Value) (xT : TypeId) (w : World) : (Instr.typeAssert (.iface 45 v) xT 89 true).run Tryd.prog w = .ok (.tuple #[.nilIface, .bool false]) w := run_typeAssert_lacksB Tryd.underlying89 (by kernel_rfl) (by kernel_rfl) v xT w
theorem noIsW (v : Value) (xT : TypeId) (w : World) : (Instr.typeAssert (.iface 51 v) xT 92 true).run Tryd.prog w = .ok (.tuple #[.nilIface, .bool false]) w := run_typeAssert_lacksB Tryd.underlying92 (by kernel_rfl) (by kernel_rfl) v xT w
theorem hasUnwrapW (v : Value) (xT : TypeId) (w : World) : (Instr.typeAssert (.iface 51 v) xT 87 true).run Tryd.prog w = .ok (.tuple #[.iface 51 v, .bool true]) w := run_typeAssert_hasB Tryd.underlying87 (by kernel_rfl) v xT w
theorem methodUnwrap (v : Value) (w : World) : (Go.method 225 51 v "Unwrap").run Tryd.prog w = .ok (49, v) w := by kernel_rfl

theorem unwrap_at (b : Nat) (v : Value) (w : World) (h : w.cell? ⟨b, 2, none⟩ = some v) : Calls Tryd.prog 49 #[.pointer (some ⟨b, 0, none⟩)] w fun e w' => e = .returned v ∧ w = w' := by
  go_enter Tryd.func49, Tryd.ntmps49
  go_wp2
  go_ret
  exact ⟨rfl, rfl⟩

set_option maxHeartbeats 4000000 in
theorem is_loop (v0 : Value) (r0 : List (ByteArray × Int)) (k k' : Int) (w : World) (h0 : IsErr w r0 k v0) :
    Calls Tryd.prog 27 #[v0, .iface 45 (.int .i64 k'), .bool true] w fun e w' => e = .returned (.bool (k == k')) ∧ w = w' := by
  obtain ⟨i, hi, hcmp⟩ := Option.map_eq_some_iff.1 errComp
  have nE := noIsE
  have uE := noUnwrapE
  have vE := noUnwrapsE
  have nW := noIsW
  have uW := hasUnwrapW
  have mU := methodUnwrap
  have heq := fun (W : World) (a b : Int) => run_eql_iface_int (P := Tryd.prog) W a b Tryd.underlying26 Tryd.underlying45 hi hcmp
  have hne := fun (W : World) (x y : Value) => run_eql_iface_types (P := Tryd.prog) 51 45 x y Tryd.underlying26 (by decide) W
  obtain ⟨bb, hbb⟩ : ∃ bb, bb = (k == k') := ⟨_, rfl⟩
  rw [← hbb]
  have HB := Lib.hid hbb
  clear hbb
  go_enter Tryd.func27, Tryd.ntmps27
  go_wp2
  go_loopg [0] r0.length (fun g v wr => w = wr ∧ ∃ r, g = r.length ∧ IsErr w r k v)
  case atStart => exact ⟨rfl, r0, rfl, h0⟩
  case round =>
    obtain ⟨rfl, r, rfl, hr⟩ := hrel
    clear h0
    cases r with
    | nil =>
      have hv : u0 = .iface 45 (.int .i64 k) := hr
      subst hv
      clear hr
      by_cases hkk : (k == k') = true
      · obtain rfl : bb = true := by rw [HB.out]; exact hkk
        go_wp2
        go_ret
        exact ⟨rfl, rfl⟩
      · have hkf : (k == k') = false := by simpa using hkk
        clear hkk
        obtain rfl : bb = false := by rw [HB.out]; exact hkf
        go_wp2
        go_ret
        exact ⟨rfl, rfl⟩
    | cons x r =>
      obtain ⟨s, n⟩ := x
      obtain ⟨b, v', rfl, h2, h3, h4, h5, h6⟩ := hr
      have hU := Lib.hid (unwrap_at b v' w h5)
      have H6 := Lib.hid h6
      obtain ⟨t', x', rfl⟩ := h6.form
      clear h3 h4 h5 h6
      go_wp2_with (go_at_call 49; refine hU.out.mono ?_; rintro e w' ⟨rfl, rfl⟩)
      go_roundg r.length
      case measure => simp
      case rel => exact ⟨rfl, r, rfl, H6.out⟩

set_option maxHeartbeats 4000000 in
/-- errors.Is, asked of a kind. -/
theorem is_kind (v : Value) (r : List (ByteArray × Int)) (k k' : Int) (w : World) (h : IsErr w r k v) :
    Calls Tryd.prog 21 #[v, .iface 45 (.int .i64 k')] w fun e w' => e = .returned (.bool (k == k')) ∧ w = w' := by
  have h8 := @run_callFunc_extern Tryd.prog 26 _ Extern.ReflectliteType.typeOf Tryd.func26 (by kernel_rfl) (by kernel_rfl) (by kernel_rfl) (by kernel_rfl)
  have tT := isTypeOf
  have cT := isComparable
  have mR := isMethodComparable
  have HL := Lib.hid (is_loop v r k k' w h)
  obtain ⟨t, x, rfl⟩ := h.form
  clear h
  go_enter Tryd.func21, Tryd.ntmps21
  go_wp2_with (go_at_call 27; refine HL.out.mono ?_; rintro e w' ⟨rfl, rfl⟩)
  go_ret
  exact ⟨rfl, rfl⟩
end Go.Proofs.YtmijknodkoblbaaDoor.Errs
