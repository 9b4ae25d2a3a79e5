/- errors.Is of a refusal that wraps that very error. -/
import Derived.Test.YtojkkmoflcfglaaGreatDoorChecked
import Derived.WalkKit
import Derived.LaidEql
import Derived.Stop.Asserts
import Derived.RowKitTokens
import Derived.KernelRfl
namespace Go.Proofs.YtojkkmoflcfglaaGreatDoor.Is
open Go.RowKit Go.Extern.Stop Go.Stop Go.Extern

/-- What the type's Comparable gives. -/
def comp : Array Value → Sem Value := Extern.ReflectliteType.method fun t => do Extern.Rtype.noPackHeld "Comparable" t; pure (.bool (← typeInfo t).comparable)
theorem isTypeOf (v : Value) (w : World) : (Extern.ReflectliteType.typeOf #[.iface 438 v]).run Tryz.prog w = .ok (.iface 138 (.agg #[.pointer (some ⟨11, 438, none⟩)])) w := by kernel_rfl
theorem isComparable (w : World) : (comp #[.agg #[.pointer (some ⟨11, 438, none⟩)]]).run Tryz.prog w = .ok (.bool true) w := by kernel_rfl
theorem isMethodComparable (v : Value) (w : World) : (Go.method 575 138 v "Comparable").run Tryz.prog w = .ok (324, v) w := by kernel_rfl
theorem isComp : (Tryz.prog.info? 438).map (·.comparable) = some true := by kernel_rfl
theorem isSize : (Tryz.prog.info? 440).map (·.size) = some 1 := by kernel_rfl
theorem noIsE (v : Value) (xT : TypeId) (w : World) : (Instr.typeAssert (.iface 438 v) xT 140 true).run Tryz.prog w = .ok (.tuple #[.nilIface, .bool false]) w := run_typeAssert_lacksB Tryz.underlying140 (by kernel_rfl) (by kernel_rfl) v xT w
theorem noIsW (v : Value) (xT : TypeId) (w : World) : (Instr.typeAssert (.iface 74 v) xT 140 true).run Tryz.prog w = .ok (.tuple #[.nilIface, .bool false]) w := run_typeAssert_lacksB Tryz.underlying140 (by kernel_rfl) (by kernel_rfl) v xT w
theorem hasUnwrapW (v : Value) (xT : TypeId) (w : World) : (Instr.typeAssert (.iface 74 v) xT 143 true).run Tryz.prog w = .ok (.tuple #[.iface 74 v, .bool true]) w := run_typeAssert_hasB Tryz.underlying143 (by kernel_rfl) v xT w
theorem methodUnwrap (v : Value) (w : World) : (Go.method 575 74 v "Unwrap").run Tryz.prog w = .ok (319, v) w := by kernel_rfl

set_option maxHeartbeats 1000000 in
theorem errIs (w : World) (b o b2 o2 : Nat) (h1 : w.cell? ⟨b, o + 1, none⟩ = some (.iface 438 (.pointer (some ⟨b2, o2, none⟩)))) :
    Calls Tryz.prog 9 #[.iface 74 (.pointer (some ⟨b, o, none⟩)), .iface 438 (.pointer (some ⟨b2, o2, none⟩))] w fun e w' => e = .returned (.bool true) ∧ w' = w := by
  obtain ⟨i, hi, hcmp⟩ := Option.map_eq_some_iff.1 isComp
  obtain ⟨j, hj, hjs⟩ := Option.map_eq_some_iff.1 isSize
  have h8 := @run_callFunc_extern Tryz.prog 22 _ Extern.ReflectliteType.typeOf Tryz.func22 (by kernel_rfl) (by kernel_rfl) (by kernel_rfl) (by kernel_rfl)
  have h32 := @run_callFunc_extern Tryz.prog 324 _ comp Tryz.func324 (by kernel_rfl) (by kernel_rfl) (by kernel_rfl) (by kernel_rfl)
  have tT := isTypeOf
  have cT := isComparable
  have mR := isMethodComparable
  have nW := noIsW
  have uW := hasUnwrapW
  have mU := methodUnwrap
  have heq := run_eql_iface_ptr_same (P := Tryz.prog) w ⟨b2, o2, none⟩ Tryz.underlying29 Tryz.underlying438 hi hcmp hj
  have hty := run_eql_iface_types (P := Tryz.prog) 74 438 (.pointer (some ⟨b, o, none⟩)) (.pointer (some ⟨b2, o2, none⟩)) Tryz.underlying29 (by decide) w
  go_enter Tryz.func9, Tryz.ntmps9
  go_wp2
  refine wp_loop_rounds 2 ?_
  rw [rounds_succ]
  go_wp2
  rw [rounds_succ]
  go_wp2
  go_ret
  exact ⟨rfl, rfl⟩
end Go.Proofs.YtojkkmoflcfglaaGreatDoor.Is
