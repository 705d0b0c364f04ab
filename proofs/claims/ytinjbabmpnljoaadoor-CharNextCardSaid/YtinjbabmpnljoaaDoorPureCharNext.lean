import Derived.Test.YtinjbabmpnljoaaDoorPCharx3
import Derived.Test.YtinjbabmpnljoaaDoorCharBase
namespace Go.Proofs.YtinjbabmpnljoaaDoor.Pure
open Go.IntWalk Go.RowKit Go.Proofs.YtinjbabmpnljoaaDoor.CharPure Go.Proofs.YtinjbabmpnljoaaDoor.PChar Go.Proofs.YtinjbabmpnljoaaDoorW.PrintWords Go.Proofs.YtinjbabmpnljoaaDoorW.PrintLast

theorem next_loop (l : List Int) (hb : Bytes l) (hl : l.length ≤ 1000) (a : Int) : ∀ n k i : Nat, i + n = l.length + 1 → 2 * n + 20 ≤ k → decanterlaw02_CharNext.l0 k l a ((l.length + 1 : Nat) : Int) (i : Int) = some true
  | n, 0, i, _, h => by omega
  | 0, k + 1, i, hi, _ => by rw [decanterlaw02_CharNext.l0, if_neg (by omega)]
  | n + 1, k + 1, i, hi, hk => by
    have e1 : wrap64 ((i : Int) + 1) = ((i + 1 : Nat) : Int) := by rw [wrap64_in _ (by omega)]; omega
    obtain ⟨k', rfl⟩ : ∃ k', k = k' + 11 + 1 := ⟨k - 12, by omega⟩
    have ih := next_loop l hb hl a n (k' + 11) (i + 1) (by omega) (by omega)
    have key : ∀ x : Int, decanterlaw02_CharNext.j2 (k' + 11 + 1) l a x ((l.length + 1 : Nat) : Int) (i : Int) = some true := by
      intro x
      obtain ⟨c, m, h1, h2, h3⟩ := both_next l hb (by omega) x k'
      rw [decanterlaw02_CharNext.j2, h1, Option.bind_some, h2, Option.bind_some, if_pos h3, if_pos rfl, e1]
      exact ih
    rw [decanterlaw02_CharNext.l0, if_pos (by omega)]
    split
    · exact key _
    · exact key _
theorem speaks02 : decanterlaw02_speaks.f 3000 = some true := by decide +kernel
theorem CharNext : decanterlaw02_CharNext.Pure := by
  intro l a _ _ hb _
  refine ⟨3001, ?_⟩
  have sp : decanterlaw02_speaks.f 3001 = some true := decanterlaw02_speaks.mono 3000 _ speaks02
  unfold decanterlaw02_CharNext.f
  rw [sp, Option.bind_some, if_pos rfl]
  by_cases h1 : (l.length : Int) > 400
  · rw [decide_eq_true h1, decanterlaw02_CharNext.j0, if_pos rfl, speaks02]; rfl
  · rw [decide_eq_false h1, decanterlaw02_CharNext.j0, if_neg (by decide), wrap64_in _ (by omega)]
    exact next_loop l (fun x hx => byte_of_wf (hb x hx)) (by omega) a (l.length + 1) 3000 0 (by omega) (by omega)
end Go.Proofs.YtinjbabmpnljoaaDoor.Pure
