import Derived.Test.YtnmjocoopbfpnaaDoorPEntityNx3
import Derived.Test.YtnmjocoopbfpnaaDoorEntRef
namespace Go.Proofs.YtnmjocoopbfpnaaDoor.Pure
open Go.RowKit Go.Proofs.YtnmjocoopbfpnaaDoor.PEntityN Go.Proofs.YtnmjocoopbfpnaaDoor.EntBaseN Go.Proofs.YtnmjocoopbfpnaaDoor.EntRef Go.Proofs.YtnmjocoopbfpnaaDoorW.PrintWords Go.Proofs.YtnmjocoopbfpnaaDoorW.PrintLast

theorem EntityFinds : decanterlaw04_EntityFinds.Pure := by
  intro a0 _
  refine ⟨120, ?_⟩
  have hj : ∀ b, decanterlaw04_EntityFinds.j0 120 a0 b = some true := by
    intro b
    rw [decanterlaw04_EntityFinds.j0]
    by_cases h : b = true
    · rw [if_pos h, ent_speaks 119 (by omega)]
      rfl
    · rw [if_neg h, find_eq _ 119 (by omega), ref_find _ 119 (by omega), Option.bind_some, Option.bind_some, if_pos rfl]
      simp
  unfold decanterlaw04_EntityFinds.f
  rw [ent_speaks 120 (by omega), Option.bind_some, if_pos rfl]
  exact hj _
end Go.Proofs.YtnmjocoopbfpnaaDoor.Pure
