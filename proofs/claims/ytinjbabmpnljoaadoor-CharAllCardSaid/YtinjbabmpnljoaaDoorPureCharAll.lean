import Derived.Test.YtinjbabmpnljoaaDoorPCharx3
import Derived.Test.YtinjbabmpnljoaaDoorCharMore
namespace Go.Proofs.YtinjbabmpnljoaaDoor.Pure
open Go.IntWalk Go.RowKit Go.Proofs.YtinjbabmpnljoaaDoor.CharPure Go.Proofs.YtinjbabmpnljoaaDoor.PChar Go.Proofs.YtinjbabmpnljoaaDoorW.PrintWords Go.Proofs.YtinjbabmpnljoaaDoorW.PrintLast

theorem CharAll : decanterlaw02_CharAll.Pure := by
  intro l a q _ _ hb _ _
  have hb : Bytes l := fun x hx => byte_of_wf (hb x hx)
  refine ⟨3001, ?_⟩
  unfold decanterlaw02_CharAll.f
  rw [speaks_more 1, Option.bind_some, if_pos rfl]
  by_cases h1 : (l.length : Int) > 400
  · rw [decide_eq_true h1, decanterlaw02_CharAll.j0, if_pos rfl, speaks02]; rfl
  · obtain ⟨t, e1, e2⟩ := both_all l hb (by omega) a q
    have hz : (strOfNums l).size = l.length := strOfNums_size l
    have e3 := clean_eq (strOfNums l) (by omega) 3000 (by omega)
    rw [bytesOf_str l hb, hz] at e3
    have e4 := ref_all_in l hb (by omega) 0 (by omega) (l.length : Int) 3000 (by omega)
    rw [show ((0 : Nat) : Int) = 0 from rfl] at e4
    rw [decide_eq_false h1, decanterlaw02_CharAll.j0, if_neg (by decide), e1, Option.bind_some, e2, Option.bind_some, if_pos rfl, e3, Option.bind_some, e4, Option.bind_some]
    simp
end Go.Proofs.YtinjbabmpnljoaaDoor.Pure
