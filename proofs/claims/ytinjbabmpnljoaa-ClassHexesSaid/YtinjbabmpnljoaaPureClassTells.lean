import Derived.Test.YtinjbabmpnljoaaPClassTellsx2
import Derived.IntWalk
namespace Go.Proofs.Ytinjbabmpnljoaa.Pure
open Go.IntWalk Go.RowKit Go.Proofs.Ytinjbabmpnljoaa.PClassTells Go.Proofs.YtinjbabmpnljoaaW.PrintWords Go.Proofs.YtinjbabmpnljoaaW.PrintLast

theorem within_eq (c a b : Int) : class_within.f c a b = some (decide (a ≤ c ∧ c ≤ b)) := by
  unfold class_within.f
  by_cases h1 : a ≤ c <;> simp [h1, ge_iff_le]
theorem lower_eq (c : Int) (h : -2147483648 ≤ c ∧ c ≤ 2147483647) : class_Lower.f c = some (if 65 ≤ c ∧ c ≤ 90 then c + 32 else c) := by
  unfold class_Lower.f
  rw [within_eq]
  by_cases h1 : 65 ≤ c ∧ c ≤ 90
  · have := wrap32_in (c + 32) (by omega)
    simp [h1, this]
  · simp [h1]
theorem letter_eq (c : Int) (h : -2147483648 ≤ c ∧ c ≤ 2147483647) : class_Letter.f c = some (decide ((65 ≤ c ∧ c ≤ 90) ∨ (97 ≤ c ∧ c ≤ 122))) := by
  unfold class_Letter.f
  rw [lower_eq c h]
  simp only [Option.bind_some]
  rw [within_eq]
  simp only [Option.bind_some]
  refine congrArg some (decide_eq_decide.mpr ?_)
  split <;> omega
theorem digit_eq (c : Int) : class_Digit.f c = some (decide (48 ≤ c ∧ c ≤ 57)) := by
  unfold class_Digit.f
  rw [within_eq]; rfl
theorem hex_eq (c : Int) (h : -2147483648 ≤ c ∧ c ≤ 2147483647) : class_Hex.f c = some (if 48 ≤ c ∧ c ≤ 57 then (c - 48, true) else if 65 ≤ c ∧ c ≤ 70 then (c - 55, true) else if 97 ≤ c ∧ c ≤ 102 then (c - 87, true) else (0, false)) := by
  unfold class_Hex.f
  rw [lower_eq c h]
  simp only [Option.bind_some]
  rw [digit_eq]
  simp only [Option.bind_some, within_eq]
  by_cases h1 : 48 ≤ c ∧ c ≤ 57
  · have h2 : ¬ (65 ≤ c ∧ c ≤ 90) := by omega
    have e1 := wrap32_in (c - 48) (by omega)
    have e2 := wrap64_in (c - 48) (by omega)
    simp [h1, h2, e1, e2]
  · by_cases h2 : 65 ≤ c ∧ c ≤ 70
    · have h3 : 65 ≤ c ∧ c ≤ 90 := by omega
      have h4 : ¬ (48 ≤ c + 32 ∧ c + 32 ≤ 57) := by omega
      have h5 : 97 ≤ c + 32 ∧ c + 32 ≤ 102 := by omega
      have e1 := wrap32_in (c + 32 - 97) (by omega)
      have e2 := wrap64_in (c + 32 - 97) (by omega)
      have e3 := wrap64_in (c + 32 - 97 + 10) (by omega)
      have e4 : c + 32 - 97 + 10 = c - 55 := by omega
      rw [if_pos h3, if_neg (by simpa using h4), if_neg h1, if_pos h2, if_pos (by simpa using h5), e1, e2, e3, e4]
    · by_cases h3 : 97 ≤ c ∧ c ≤ 102
      · have h4 : ¬ (65 ≤ c ∧ c ≤ 90) := by omega
        have e1 := wrap32_in (c - 97) (by omega)
        have e2 := wrap64_in (c - 97) (by omega)
        have e3 := wrap64_in (c - 97 + 10) (by omega)
        have e4 : c - 97 + 10 = c - 87 := by omega
        rw [if_neg h4, if_neg (by simpa using h1), if_neg h1, if_neg h2, if_pos h3, if_pos (by simpa using h3), e1, e2, e3, e4]
      · rw [if_neg h1, if_neg h2, if_neg h3]
        split
        · rw [if_neg (by simp; omega), if_neg (by simp; omega)]
        · rw [if_neg (by simp; omega), if_neg (by simp; omega)]
theorem blank_eq (c : Int) (h : -2147483648 ≤ c ∧ c ≤ 2147483647) : class_Blank.f c = some (decide (c = 9 ∨ c = 10 ∨ c = 12 ∨ c = 32)) := by
  unfold class_Blank.f
  rw [if_pos h.1, if_pos h.2]
theorem rblank_eq (c : Int) : decanterref03_Blank.f c = some (decide (c = 9 ∨ c = 10 ∨ c = 12 ∨ c = 32)) := by
  unfold decanterref03_Blank.f
  by_cases h1 : c = 9 <;> by_cases h2 : c = 10 <;> by_cases h3 : c = 12 <;> by_cases h4 : c = 32 <;> simp_all
theorem rletter_eq (c : Int) : decanterref03_Letter.f c = some (decide ((65 ≤ c ∧ c ≤ 90) ∨ (97 ≤ c ∧ c ≤ 122))) := by
  unfold decanterref03_Letter.f
  by_cases h1 : 65 ≤ c <;> by_cases h2 : c ≤ 90 <;> by_cases h3 : 97 ≤ c <;> by_cases h4 : c ≤ 122 <;> simp [h1, h2, h3, h4]
theorem rdigit_eq (c : Int) : decanterref03_Digit.f c = some (decide (48 ≤ c ∧ c ≤ 57)) := by
  unfold decanterref03_Digit.f
  by_cases h1 : 48 ≤ c <;> simp [h1]
theorem rlower_eq (c : Int) (h : -2147483648 ≤ c ∧ c ≤ 2147483647) : decanterref03_Lower.f c = some (if 65 ≤ c ∧ c ≤ 90 then c + 32 else c) := by
  unfold decanterref03_Lower.f
  have e := wrap64_in (c + 32) (by omega)
  by_cases h1 : 65 ≤ c <;> by_cases h2 : c ≤ 90 <;> simp [h1, h2, e]
theorem rhex_eq (k : Nat) (c : Int) (h : -2147483648 ≤ c ∧ c ≤ 2147483647) : decanterref03_Hex.f (k + 1) c = some (if 48 ≤ c ∧ c ≤ 57 then c - 48 else if 65 ≤ c ∧ c ≤ 70 then c - 55 else if 97 ≤ c ∧ c ≤ 102 then c - 87 else -1) := by
  unfold decanterref03_Hex.f
  rw [rdigit_eq]
  simp only [Option.bind_some]
  have e1 := wrap64_in (c - 48) (by omega)
  have e2 := wrap64_in (c - 55) (by omega)
  have e3 := wrap64_in (c - 87) (by omega)
  simp only [decanterref03_Hex.j0, e1, e2, e3, decide_eq_true_eq, ge_iff_le, Bool.false_eq_true, if_false]
  repeat' split
  all_goals first | rfl | omega
theorem round_eq (k : Nat) (x0 x3 c : Int) (h : -2147483648 ≤ c ∧ c ≤ 2147483647) : decanterlaw03_ClassTells.j1 (k + 2) x0 x3 c = decanterlaw03_ClassTells.l0 (k + 1) x0 (wrap64 (x3 + 1)) := by
  have e := wrap64_in c (by omega)
  rw [decanterlaw03_ClassTells.j1]
  simp only [hex_eq c h, blank_eq c h, rblank_eq, letter_eq c h, rletter_eq, digit_eq, rdigit_eq, lower_eq c h, rlower_eq c h, rhex_eq k c h, e, Option.bind_some, bne_self_eq_false, Bool.false_eq_true, if_false]
  have e2 := wrap64_in (if 65 ≤ c ∧ c ≤ 90 then c + 32 else c) (by split <;> omega)
  rw [e2, if_pos rfl]
  unfold mx
  by_cases h1 : 48 ≤ c ∧ c ≤ 57
  · have : ¬ (c - 48 < 0) := by omega
    have h0 : 0 ≤ c - 48 := by omega
    simp [h1, this]
  · by_cases h2 : 65 ≤ c ∧ c ≤ 70
    · have : ¬ (c - 55 < 0) := by omega
      have h0 : 0 ≤ c - 55 := by omega
      simp [h1, h2, this]
      intro hh; exact absurd hh (by omega)
    · by_cases h3 : 97 ≤ c ∧ c ≤ 102
      · have : ¬ (c - 87 < 0) := by omega
        have h0 : 0 ≤ c - 87 := by omega
        simp [h1, h2, h3, this]
        intro hh; exact absurd hh (by omega)
      · simp [h1, h2, h3]
theorem loop_eq (a0 : Int) (h : -2147483648 ≤ a0 ∧ a0 ≤ 2147483647) : ∀ (n : Nat) (x : Int), -1 ≤ x → x + n = 257 → decanterlaw03_ClassTells.l0 (2 * n + 3) a0 x = some true
  | 0, x, _, hx => by
    rw [decanterlaw03_ClassTells.l0, if_neg (by omega)]
  | n + 1, x, h0, hx => by
    have ih := loop_eq a0 h n (x + 1) (by omega) (by omega)
    have e := wrap64_in (x + 1) (by omega)
    have e2 := wrap32_in x (by omega)
    rw [decanterlaw03_ClassTells.l0, if_pos (by omega)]
    split
    · show decanterlaw03_ClassTells.j1 ((2 * n + 2) + 2) a0 x a0 = _
      rw [round_eq _ _ _ _ h, e]; exact ih
    · rw [e2]
      show decanterlaw03_ClassTells.j1 ((2 * n + 2) + 2) a0 x x = _
      rw [round_eq _ _ _ _ (by omega), e]; exact ih
theorem speaks_eq : decanterlaw03_speaks.f = some true := by
  unfold decanterlaw03_speaks.f
  have h : class_Small.f (⟨#[65, 98, 67]⟩ : ByteArray) = some ⟨#[97, 98, 99]⟩ := by decide +kernel
  rw [h, Option.bind_some, if_pos (by decide +kernel), blank_eq 32 (by omega)]
  rfl
theorem ClassTells : decanterlaw03_ClassTells.Pure := by
  intro a0 h
  have h' : -2147483648 ≤ a0 ∧ a0 ≤ 2147483647 := by
    simpa [Lit.wf, IntKind.min, IntKind.max, IntKind.signed, IntKind.bits] using h
  refine ⟨2 * 258 + 3, ?_⟩
  unfold decanterlaw03_ClassTells.f
  rw [speaks_eq, Option.bind_some, if_pos rfl]
  exact loop_eq a0 h' 258 (-1) (by omega) (by omega)

end Go.Proofs.Ytinjbabmpnljoaa.Pure
