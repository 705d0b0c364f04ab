import Derived.Test.YtnmjocoopbfpnaaDoorCharMore
namespace Go.Proofs.YtnmjocoopbfpnaaDoor.CharPure
open Go.IntWalk Go.RowKit Go.Lib Go.Proofs.YtnmjocoopbfpnaaDoor.PRefA Go.Proofs.YtnmjocoopbfpnaaDoorW.PrintWords Go.Proofs.YtnmjocoopbfpnaaDoorW.PrintLast
def allN : Nat → List Int → Nat → Int → List UInt8
  | 0, _, _, _ => []
  | n + 1, l, p, q => if (p : Int) < q ∧ p < l.length then runeB ((nx l p).1 : Int) ++ allN n l (p + (nx l p).2) q else []
/-- The characters from a place up to another one. -/
def allB (l : List Int) (p : Nat) (q : Int) : List UInt8 := allN (l.length - p) l p q
theorem allN_eq (l : List Int) (hb : Bytes l) (q : Int) : ∀ n m p, l.length ≤ p + n → l.length ≤ p + m → allN n l p q = allN m l p q
  | 0, 0, _, _, _ => rfl
  | 0, m + 1, p, h, _ => by
    show [] = if (p : Int) < q ∧ p < l.length then _ else []
    rw [if_neg (by omega)]
  | n + 1, 0, p, _, h => by
    show (if (p : Int) < q ∧ p < l.length then _ else []) = []
    rw [if_neg (by omega)]
  | n + 1, m + 1, p, h1, h2 => by
    show (if (p : Int) < q ∧ p < l.length then _ else []) = if (p : Int) < q ∧ p < l.length then _ else []
    by_cases h : (p : Int) < q ∧ p < l.length
    · have hf := nx_facts l hb p h.2
      rw [if_pos h, if_pos h, allN_eq l hb q n m (p + (nx l p).2) (by omega) (by omega)]
    · rw [if_neg h, if_neg h]
theorem allB_cons (l : List Int) (hb : Bytes l) (p : Nat) (q : Int) (h1 : (p : Int) < q) (h2 : p < l.length) : allB l p q = runeB ((nx l p).1 : Int) ++ allB l (p + (nx l p).2) q := by
  have hf := nx_facts l hb p h2
  unfold allB
  obtain ⟨n, hn⟩ : ∃ n, l.length - p = n + 1 := ⟨l.length - p - 1, by omega⟩
  rw [hn]
  show (if (p : Int) < q ∧ p < l.length then _ else []) = _
  rw [if_pos ⟨h1, h2⟩, allN_eq l hb q n (l.length - (p + (nx l p).2)) (p + (nx l p).2) (by omega) (by omega)]
theorem allB_nil (l : List Int) (p : Nat) (q : Int) (h : q ≤ (p : Int) ∨ l.length ≤ p) : allB l p q = [] := by
  unfold allB
  cases hn : l.length - p with
  | zero => rfl
  | succ n =>
    show (if (p : Int) < q ∧ p < l.length then _ else []) = []
    rw [if_neg (by omega)]
theorem all_loop (l : List Int) (hb : Bytes l) (hl : l.length ≤ 1000) (q : Int) : ∀ n k p (acc : List UInt8), l.length ≤ p + n → n + 2 ≤ k → acc.length ≤ 4 * p → p ≤ l.length → char_All.l0 k l (p : Int) q acc = some ⟨(acc ++ allB l p q).toArray⟩
  | n, 0, p, acc, _, h, _, _ => by omega
  | n, k + 1, p, acc, hn, hk, ha, hp => by
    rw [char_All.l0]
    rw [show @char_All.runeB = @ref_Text.runeB from rfl]
    by_cases h1 : (p : Int) < q
    · rw [if_pos h1]
      obtain ⟨k', rfl⟩ : ∃ k', k = k' + 1 := ⟨k - 1, by omega⟩
      by_cases h2 : p < l.length
      · obtain ⟨f1, f2, f3, f4, f5, f6⟩ := nx_facts l hb p h2
        have hr := rune_len ((nx l p).1 : Int)
        rw [next_in l hb (by omega) p h2 k', Option.bind_some]
        dsimp only
        rw [if_neg (by omega), if_pos (by omega), wrap64_in _ (by omega)]
        obtain ⟨n', rfl⟩ : ∃ n', n = n' + 1 := ⟨n - 1, by omega⟩
        have ih := all_loop l hb hl q n' (k' + 1) (p + (nx l p).2) (acc ++ runeB ((nx l p).1 : Int)) (by omega) (by omega) (by rw [List.length_append]; omega) f3
        rw [allB_cons l hb p q h1 h2, ← List.append_assoc]
        rw [show ((p : Int) + ((nx l p).2 : Int)) = ((p + (nx l p).2 : Nat) : Int) by omega]
        exact ih
      · rw [next_out l (p : Int) (.inr (by omega)) k', Option.bind_some, if_pos rfl, allB_nil l p q (.inr (by omega)), List.append_nil]
    · rw [if_neg h1, allB_nil l p q (.inl (by omega)), List.append_nil]
theorem all_in (l : List Int) (hb : Bytes l) (hl : l.length ≤ 1000) (p : Nat) (hp : p ≤ l.length) (q : Int) (k : Nat) (hk : 1002 ≤ k) : char_All.f k l (p : Int) q = some ⟨(allB l p q).toArray⟩ := by
  unfold char_All.f
  rw [all_loop l hb hl q 1000 k p [] (by omega) (by omega) (by simp) hp]
  rfl
theorem all_out (l : List Int) (a q : Int) (ha : a < 0 ∨ (l.length : Int) ≤ a) (k : Nat) : char_All.f (k + 2) l a q = some ⟨#[]⟩ := by
  unfold char_All.f
  rw [char_All.l0]
  by_cases h : a < q
  · rw [if_pos h, next_out l a ha k, Option.bind_some, if_pos rfl]
  · rw [if_neg h]
end Go.Proofs.YtnmjocoopbfpnaaDoor.CharPure
