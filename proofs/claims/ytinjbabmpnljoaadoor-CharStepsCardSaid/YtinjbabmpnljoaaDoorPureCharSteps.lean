import Derived.Test.YtinjbabmpnljoaaDoorPCharx4
import Derived.Test.YtinjbabmpnljoaaDoorCharMore
namespace Go.Proofs.YtinjbabmpnljoaaDoor.Pure
open Go.IntWalk Go.RowKit Go.Proofs.YtinjbabmpnljoaaDoor.CharPure Go.Proofs.YtinjbabmpnljoaaDoor.PChar Go.Proofs.YtinjbabmpnljoaaDoorW.PrintWords Go.Proofs.YtinjbabmpnljoaaDoorW.PrintLast

theorem steps_app (u : ByteArray) (r : Nat) : (u ++ Go.Utf8.encode (r : Int)).data.toList = u.data.toList ++ runeB (r : Int) := by
  rw [ByteArray.data_append, Array.toList_append, encode_rune]
theorem steps_size (u : ByteArray) : u.size = u.data.toList.length := by rw [Array.length_toList]; rfl
theorem steps_stop (l : List Int) (hb : Bytes l) (hl : l.length ≤ 1000) (c : Nat) (k p : Nat) (u v : ByteArray) (hk : 1100 ≤ k) (h : l.length ≤ p) (hp : p ≤ l.length)
    (iu : u.data.toList ++ allB l p (l.length : Int) = allB l 0 (l.length : Int)) (iv : v.data.toList ++ allB l p (c : Int) = allB l 0 (c : Int)) : decanterlaw02_CharSteps.l0 k l (p : Int) u v (c : Int) = some true := by
  obtain ⟨k', rfl⟩ : ∃ k', k = k' + 1 + 1 := ⟨k - 2, by omega⟩
  rw [decanterlaw02_CharSteps.l0]
  have hpe : (p : Int) = (l.length : Int) := by omega
  have a1 := all_in l hb hl 0 (by omega) (l.length : Int) (k' + 1) (by omega)
  have a2 := all_in l hb hl 0 (by omega) (c : Int) (k' + 1) (by omega)
  rw [show ((0 : Nat) : Int) = 0 from rfl] at a1 a2
  rw [allB_nil l p _ (.inr (by omega)), List.append_nil] at iu iv
  have q1 : ∀ (t : List UInt8) (x : ByteArray), x.data.toList = t → (⟨t.toArray⟩ : ByteArray).toList = x.toList := fun t x hx => by
    rw [Lib.toList_data, Lib.toList_data, hx]
  rw [if_neg (by omega), if_pos hpe, a1, Option.bind_some, if_pos (q1 _ _ iu), a2, Option.bind_some, if_pos (q1 _ _ iv)]
theorem steps_loop (l : List Int) (hb : Bytes l) (hl : l.length ≤ 1000) (c : Nat) (hc : c ≤ 255) : ∀ n k p (u v : ByteArray), l.length ≤ p + n → 2 * n + 1100 ≤ k → p ≤ l.length → u.size ≤ 4 * p → v.size ≤ 4 * p →
    u.data.toList ++ allB l p (l.length : Int) = allB l 0 (l.length : Int) → v.data.toList ++ allB l p (c : Int) = allB l 0 (c : Int) → decanterlaw02_CharSteps.l0 k l (p : Int) u v (c : Int) = some true := by
  intro n
  induction n with
  | zero =>
    intro k p u v hn hk hp hu hv iu iv
    exact steps_stop l hb hl c k p u v (by omega) (by omega) hp iu iv
  | succ n ih =>
    intro k p u v hn hk hp hu hv iu iv
    obtain ⟨k', rfl⟩ : ∃ k', k = k' + 1 + 1 := ⟨k - 2, by omega⟩
    by_cases h : p < l.length
    · obtain ⟨f1, f2, f3, f4, f5, f6⟩ := nx_facts l hb p h
      have hr := rune_len ((nx l p).1 : Int)
      have hes : (Go.Utf8.encode ((nx l p).1 : Int)).size = (runeB ((nx l p).1 : Int)).length := by rw [steps_size, encode_rune]
      have happ : ∀ x : ByteArray, (x ++ Go.Utf8.encode ((nx l p).1 : Int)).data.toList = x.data.toList ++ runeB ((nx l p).1 : Int) := fun x => steps_app x _
      have e1 : wrap64 ((p : Int) + ((nx l p).2 : Int)) = ((p + (nx l p).2 : Nat) : Int) := by clear hes happ hu hv; rw [wrap64_in _ (by omega)]; omega
      have g1 : ¬ ((nx l p).2 : Int) < 1 := by clear hes happ hu hv; omega
      have g2 : ¬ ((nx l p).2 : Int) > 4 := by clear hes happ hu hv; omega
      have g3 : ¬ ((nx l p).1 : Int) = 0 := by clear hes happ hu hv; omega
      have g4 : ¬ ((nx l p).1 : Int) = 13 := by clear hes happ hu hv; omega
      have g5 : (p : Int) < (l.length : Int) := by clear hes happ hu hv; omega
      rw [decanterlaw02_CharSteps.l0, if_pos g5, next_in l hb (Nat.le_trans hl (by decide)) p h k', Option.bind_some]
      dsimp only
      rw [if_neg g1, if_neg g2, if_neg g3, show ((((nx l p).1 : Nat) : Int) == 13) = false from beq_eq_false_iff_ne.mpr g4, decanterlaw02_CharSteps.j2, if_neg (by decide), e1]
      generalize Go.Utf8.encode ((nx l p).1 : Int) = E at hes happ ⊢
      have iu' : (u ++ E).data.toList ++ allB l (p + (nx l p).2) (l.length : Int) = allB l 0 (l.length : Int) := by
        rw [happ, List.append_assoc, ← allB_cons l hb p _ (by omega) h, iu]
      by_cases h2 : (p : Int) < (c : Int)
      · have iv' : (v ++ E).data.toList ++ allB l (p + (nx l p).2) (c : Int) = allB l 0 (c : Int) := by
          rw [happ, List.append_assoc, ← allB_cons l hb p _ h2 h, iv]
        rw [if_pos h2, if_pos (by omega), if_pos (by omega)]
        exact ih k' _ _ _ (by omega) (by omega) f3 (by rw [ByteArray.size_append]; omega) (by rw [ByteArray.size_append]; omega) iu' iv'
      · have iv' : v.data.toList ++ allB l (p + (nx l p).2) (c : Int) = allB l 0 (c : Int) := by
          rw [allB_nil l _ _ (.inl (by omega)), ← iv, allB_nil l p _ (.inl (by omega))]
        rw [if_neg h2, if_pos (by omega)]
        exact ih k' _ _ _ (by omega) (by omega) f3 (by rw [ByteArray.size_append]; omega) (by omega) iu' iv'
    · exact steps_stop l hb hl c _ p u v (by omega) (by omega) hp iu iv
theorem CharSteps : decanterlaw02_CharSteps.Pure := by
  intro l a _ _ hb ha
  have hb : Bytes l := fun x hx => byte_of_wf (hb x hx)
  obtain ⟨c, rfl⟩ : ∃ c : Nat, a = (c : Int) := ⟨a.toNat, by have := byte_of_wf ha; omega⟩
  have hc := byte_of_wf ha
  refine ⟨3001, ?_⟩
  unfold decanterlaw02_CharSteps.f
  rw [speaks_more 1, Option.bind_some, if_pos rfl]
  by_cases h1 : (l.length : Int) > 400
  · rw [decide_eq_true h1, decanterlaw02_CharSteps.j0, if_pos rfl, speaks02]; rfl
  · rw [decide_eq_false h1, decanterlaw02_CharSteps.j0, if_neg (by decide), wrap64_in _ (by omega)]
    exact steps_loop l hb (by omega) c (by omega) l.length 3000 0 _ _ (by omega) (by omega) (by omega) (Nat.le_refl _) (Nat.le_refl _) rfl rfl
end Go.Proofs.YtinjbabmpnljoaaDoor.Pure
