/-
  slices.Insert at []int: the library's contracts, laid at this program.
-/
import Derived.Shelf.Spec.SlicesInsert
import Derived.Shelf.Spec.SlicesInsertGrow
import Derived.Test.YtcdkcnegejhnhaaProg
namespace Go.Proofs
def Try.insert_ren : Go.Shelf.Ren := ⟨fun | 21 => 84 | 27 => 89 | 28 => 90 | 35 => 96 | 39 => 100 | n => n, fun | 22 => 53 | n => n, fun n => n⟩
theorem Try.insert_lays : Go.Proofs.Lays2.n21 Try.prog Try.insert_ren := {
  mixed := by kernel_rfl
  f21 := Try.func84.trans (congrArg some (by kernel_rfl))
  f27 := Try.func89.trans (congrArg some (by kernel_rfl))
  f28 := Try.func90.trans (congrArg some (by kernel_rfl))
  f35 := Try.func96.trans (congrArg some (by kernel_rfl))
  f39 := Try.func100.trans (congrArg some (by kernel_rfl))
  t0 := Try.underlying0
  a0 := Try.isAgg0
  z0 := Try.sizeOf0
  v0 := Try.zeroValue0
  t3 := Try.underlying3
  a3 := Try.isAgg3
  z3 := Try.sizeOf3
  v3 := Try.zeroValue3
  t4 := Try.underlying4
  a4 := Try.isAgg4
  z4 := Try.sizeOf4
  v4 := Try.zeroValue4
  t22 := Try.underlying53
  a22 := Try.isAgg53
  z22 := Try.sizeOf53
  v22 := Try.zeroValue53
  i3 := by kernel_rfl }
end Go.Proofs
