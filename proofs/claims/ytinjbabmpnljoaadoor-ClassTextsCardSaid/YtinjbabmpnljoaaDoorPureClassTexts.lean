import Derived.Test.YtinjbabmpnljoaaDoorPClassTx3
import Derived.Test.YtinjbabmpnljoaaDoorTexts
namespace Go.Proofs.YtinjbabmpnljoaaDoor.Pure
open Go.RowKit Go.Proofs.YtinjbabmpnljoaaDoor.PClassT Go.Proofs.YtinjbabmpnljoaaDoorW.PrintWords Go.Proofs.YtinjbabmpnljoaaDoorW.PrintLast

theorem ClassTexts : decanterlaw03_ClassTexts.Pure := by
  intro s _
  refine ⟨3001, ?_⟩
  unfold decanterlaw03_ClassTexts.f
  rw [speaks_ok, Option.bind_some, if_pos rfl]
  by_cases h1 : (s.size : Int) > 300
  · rw [decide_eq_true h1, decanterlaw03_ClassTexts.j0, if_pos rfl, speaks_ok]
    rfl
  · rw [decide_eq_false h1, decanterlaw03_ClassTexts.j0, if_neg (by decide), small_f s (by omega), Option.bind_some, ref_small s (by omega) 3000 (by omega), Option.bind_some, if_pos rfl, trim_f s (by omega), Option.bind_some, ref_trim s (by omega) 3000 (by omega), Option.bind_some, if_pos rfl, name_f s (by omega), Option.bind_some, ref_name s (by omega) 3000 (by omega), Option.bind_some]
    simp
end Go.Proofs.YtinjbabmpnljoaaDoor.Pure
