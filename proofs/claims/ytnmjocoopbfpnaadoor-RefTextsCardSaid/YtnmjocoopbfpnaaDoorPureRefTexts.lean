import Derived.Test.YtnmjocoopbfpnaaDoorRefTxt
namespace Go.Proofs.YtnmjocoopbfpnaaDoor.Pure
open Go.RowKit Go.Proofs.YtnmjocoopbfpnaaDoor.PRefA Go.Proofs.YtnmjocoopbfpnaaDoor.RefModel Go.Proofs.YtnmjocoopbfpnaaDoor.CharPure Go.Proofs.YtnmjocoopbfpnaaDoorW.PrintWords Go.Proofs.YtnmjocoopbfpnaaDoorW.PrintLast Go.Proofs.YtnmjocoopbfpnaaDoorW.PrintMore
theorem RefTexts : decanterlaw05_RefTexts.Pure := by
  intro l0 a1 a2 a3 _ _ hw h1 h2
  have hb : Bytes l0 := fun x hx => byte_of_wf (hw x hx)
  have hw1 : 0 ≤ a1 ∧ a1 ≤ 65535 := by
    simpa [Lit.wf, IntKind.min, IntKind.max, IntKind.signed, IntKind.bits] using h1
  have hw2 : 0 ≤ a2 ∧ a2 ≤ 65535 := by
    simpa [Lit.wf, IntKind.min, IntKind.max, IntKind.signed, IntKind.bits] using h2
  refine ⟨10000, ?_⟩
  unfold decanterlaw05_RefTexts.f decanterlaw05_speaks.f
  rw [Option.bind_some, if_pos rfl, decanterlaw05_RefTexts.j0]
  by_cases h : (l0.length : Int) > 300
  · rw [decide_eq_true h, if_pos rfl]
    rfl
  · rw [decide_eq_false h, if_neg (by decide), w64 ((l0.length : Int) + 1) (by omega) (by omega), if_neg (by omega), w64 a1 (by omega) (by omega), w64 a2 (by omega) (by omega)]
    have key : ∀ a : Int, 0 ≤ a → ∃ i : Nat, Int.tmod a ((l0.length : Int) + 1) = (i : Int) ∧ i ≤ l0.length := fun a ha => by
      have e : Int.tmod a ((l0.length : Int) + 1) = a % ((l0.length : Int) + 1) := Int.tmod_eq_emod_of_nonneg ha
      have b1 := Int.emod_nonneg a (show (l0.length : Int) + 1 ≠ 0 by omega)
      have b2 := Int.emod_lt_of_pos a (show (0 : Int) < (l0.length : Int) + 1 by omega)
      exact ⟨(a % ((l0.length : Int) + 1)).toNat, by omega, by omega⟩
    obtain ⟨i, hi, hil⟩ := key a1 hw1.1
    obtain ⟨j, hj, hjl⟩ := key a2 hw2.1
    rw [hi, hj, show mn (i : Int) (j : Int) = ((min i j : Nat) : Int) by unfold mn; split <;> omega, show mx (i : Int) (j : Int) = ((max i j : Nat) : Int) by unfold mx; split <;> omega]
    obtain ⟨t1, t2⟩ := text_both l0 hb (by omega) a3 (min i j) (max i j) (by omega) (by omega) 9999 (by omega)
    rw [t1, t2, Option.bind_some, Option.bind_some]
    simp
end Go.Proofs.YtnmjocoopbfpnaaDoor.Pure
