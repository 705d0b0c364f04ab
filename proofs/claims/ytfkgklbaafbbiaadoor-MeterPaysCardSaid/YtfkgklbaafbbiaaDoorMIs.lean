import Derived.Test.YtfkgklbaafbbiaaDoorProg
import Derived.WalkKit
import Derived.LaidEql
import Derived.Stop.Asserts
import Derived.RowKitTokens
namespace Go.Proofs.YtfkgklbaafbbiaaDoor.MErr
open Go.RowKit Go.Extern.Stop Go.Stop Go.Extern

/-! ### CLOSED FACTS: what 'reflectlite.TypeOf(target).Comparable()' gives at such a target -/
theorem E.isTypeOf (v : Value) (w : World) : (Extern.ReflectliteType.typeOf #[.iface 127 v]).run Tryd.prog w = .ok (.iface 94 (.agg #[.pointer (some ⟨6, 127, none⟩)])) w := by kernel_rfl
theorem E.isComparable (w : World) : ((Extern.ReflectliteType.method fun t => do Extern.Rtype.noPackHeld "Comparable" t; (fun a => Value.bool a.comparable) <$> typeInfo t) #[.agg #[.pointer (some ⟨6, 127, none⟩)]]).run Tryd.prog w = .ok (.bool true) w := by kernel_rfl
theorem E.isMethodComparable (v : Value) (w : World) : (Go.method 258 94 v "Comparable").run Tryd.prog w = .ok (72, v) w := by kernel_rfl
theorem E.isComp : (Tryd.prog.info? 127).map (·.comparable) = some true := by kernel_rfl
theorem E.isSize : (Tryd.prog.info? 146).map (·.size) = some 1 := by kernel_rfl

/-! ### CLOSED FACTS ON THE METHOD SETS: what errors.is's assertions find -/
theorem E.noIsE (v : Value) (xT : TypeId) (w : World) : (Instr.typeAssert (.iface 127 v) xT 96 true).run Tryd.prog w = .ok (.tuple #[.nilIface, .bool false]) w := run_typeAssert_lacksB Tryd.underlying96 (by kernel_rfl) (by kernel_rfl) v xT w
theorem E.noUnwrapE (v : Value) (xT : TypeId) (w : World) : (Instr.typeAssert (.iface 127 v) xT 99 true).run Tryd.prog w = .ok (.tuple #[.nilIface, .bool false]) w := run_typeAssert_lacksB Tryd.underlying99 (by kernel_rfl) (by kernel_rfl) v xT w
theorem E.noUnwrapsE (v : Value) (xT : TypeId) (w : World) : (Instr.typeAssert (.iface 127 v) xT 101 true).run Tryd.prog w = .ok (.tuple #[.nilIface, .bool false]) w := run_typeAssert_lacksB Tryd.underlying101 (by kernel_rfl) (by kernel_rfl) v xT w
theorem E.noIsW (v : Value) (xT : TypeId) (w : World) : (Instr.typeAssert (.iface 56 v) xT 96 true).run Tryd.prog w = .ok (.tuple #[.nilIface, .bool false]) w := run_typeAssert_lacksB Tryd.underlying96 (by kernel_rfl) (by kernel_rfl) v xT w
theorem E.hasUnwrapW (v : Value) (xT : TypeId) (w : World) : (Instr.typeAssert (.iface 56 v) xT 99 true).run Tryd.prog w = .ok (.tuple #[.iface 56 v, .bool true]) w := run_typeAssert_hasB Tryd.underlying99 (by kernel_rfl) v xT w
theorem E.methodUnwrap (v : Value) (w : World) : (Go.method 258 56 v "Unwrap").run Tryd.prog w = .ok (66, v) w := by kernel_rfl

set_option maxRecDepth 20000 in
/-- errors.Is(e, x), e a *meter.Short, x what ErrOut holds: one Unwrap, then equal. -/
theorem is_short (p : Addr) (b : Addr) (w : World) (h1 : w.cell? ⟨0, 0, none⟩ = some (.iface 127 (.pointer (some b)))) :
    Calls Tryd.prog 20 #[.iface 56 (.pointer (some p)), .iface 127 (.pointer (some b))] w fun e w' => e = .returned (.bool true) ∧ w' = w := by
  obtain ⟨i, hi, hcmp⟩ := Option.map_eq_some_iff.1 E.isComp
  obtain ⟨j, hj, hjs⟩ := Option.map_eq_some_iff.1 E.isSize
  have h8 := @run_callFunc_extern Tryd.prog 27 _ Extern.ReflectliteType.typeOf Tryd.func27 (by kernel_rfl) (by kernel_rfl) (by kernel_rfl) (by kernel_rfl)
  have h32 := @run_callFunc_extern Tryd.prog 72 _ (Extern.ReflectliteType.method fun t => do Extern.Rtype.noPackHeld "Comparable" t; pure (.bool (← typeInfo t).comparable)) Tryd.func72 (by kernel_rfl) (by kernel_rfl) (by kernel_rfl) (by kernel_rfl)
  have tT := E.isTypeOf
  have cT := E.isComparable
  have mR := E.isMethodComparable
  have nE := E.noIsE
  have uE := E.noUnwrapE
  have vE := E.noUnwrapsE
  have nW := E.noIsW
  have uW := E.hasUnwrapW
  have mU := E.methodUnwrap
  have heq := run_eql_iface_ptr_same (P := Tryd.prog) w b Tryd.underlying54 Tryd.underlying127 hi hcmp hj
  have hty := run_eql_iface_types (P := Tryd.prog) 56 127 (.pointer (some p)) (.pointer (some b)) Tryd.underlying54 (by decide) w
  go_enter Tryd.func20, Tryd.ntmps20
  go_wp2
  refine wp_loop_rounds 2 ?_
  rw [rounds_succ]
  go_wp2
  rw [rounds_succ]
  go_wp2
  go_ret
  exact ⟨rfl, rfl⟩

end Go.Proofs.YtfkgklbaafbbiaaDoor.MErr
