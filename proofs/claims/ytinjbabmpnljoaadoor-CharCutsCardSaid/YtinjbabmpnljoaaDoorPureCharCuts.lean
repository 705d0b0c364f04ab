import Derived.Test.YtinjbabmpnljoaaDoorPCharx4
import Derived.Test.YtinjbabmpnljoaaDoorCharMore
namespace Go.Proofs.YtinjbabmpnljoaaDoor.Pure
open Go.IntWalk Go.RowKit Go.Proofs.YtinjbabmpnljoaaDoor.CharPure Go.Proofs.YtinjbabmpnljoaaDoor.PChar Go.Proofs.YtinjbabmpnljoaaDoorW.PrintWords Go.Proofs.YtinjbabmpnljoaaDoorW.PrintLast

/-- A place where a character begins, or the end: what stands ahead is whole. -/
def Cut (l : List Int) (p : Nat) : Prop := p ≤ l.length ∧ ∀ q : Int, (p : Int) ≤ q → allB l 0 q = allB l 0 (p : Int) ++ allB l p q
theorem cut_zero (l : List Int) : Cut l 0 := ⟨by omega, fun q _ => by rw [allB_nil l 0 ((0 : Nat) : Int) (.inl (by omega))]; rfl⟩
theorem cut_next (l : List Int) (hb : Bytes l) (p : Nat) (h : Cut l p) (hp : p < l.length) : Cut l (p + (nx l p).2) := by
  obtain ⟨f1, f2, f3, f4, f5, f6⟩ := nx_facts l hb p hp
  refine ⟨f3, fun q hq => ?_⟩
  rw [h.2 q (by omega), h.2 ((p + (nx l p).2 : Nat) : Int) (by omega), allB_cons l hb p q (by omega) hp, allB_cons l hb p ((p + (nx l p).2 : Nat) : Int) (by omega) hp, allB_nil l (p + (nx l p).2) ((p + (nx l p).2 : Nat) : Int) (.inl (Int.le_refl _)), List.append_nil, List.append_assoc]
theorem cuts_end (l : List Int) (hb : Bytes l) (hl : l.length ≤ 1000) (p : Nat) (h : Cut l p) (k : Nat) (hk : 1100 ≤ k) : decanterlaw02_CharCuts.j2 (k + 1) l (p : Int) false = some true := by
  rw [decanterlaw02_CharCuts.j2, if_neg (by decide)]
  obtain ⟨k', rfl⟩ : ∃ k', k = k' + 1 := ⟨k - 1, by omega⟩
  by_cases hp : p < l.length
  · obtain ⟨f1, f2, f3, f4, f5, f6⟩ := nx_facts l hb p hp
    rw [next_in l hb (by omega) p hp k', Option.bind_some]
    dsimp only
    rw [show ((((nx l p).2 : Nat) : Int) == 0) = false from beq_eq_false_iff_ne.mpr (by omega), show ((p : Int) == (l.length : Int)) = false from beq_eq_false_iff_ne.mpr (by omega), if_pos (show (false == false) = true from rfl), if_neg (by omega), wrap64_in _ (by omega), all_in l hb hl p h.1 _ (k' + 1) (by omega), Option.bind_some]
    have e : allB l p ((p : Int) + 1) = (Go.Utf8.encode ((nx l p).1 : Int)).data.toList := by
      rw [allB_cons l hb p _ (by omega) hp, allB_nil l _ _ (.inl (by omega)), List.append_nil, encode_rune]
    have e2 : (⟨(allB l p ((p : Int) + 1)).toArray⟩ : ByteArray).toList = (Go.Utf8.encode ((nx l p).1 : Int)).toList := by
      rw [Lib.toList_data, Lib.toList_data, ← e]
    rw [e2]
    simp
  · have hpe : (p : Int) = (l.length : Int) := by have := h.1; omega
    rw [next_out l (p : Int) (.inr (by omega)) k', Option.bind_some]
    dsimp only
    rw [hpe]
    simp
theorem cuts_loop (l : List Int) (hb : Bytes l) (hl : l.length ≤ 1000) (c : Nat) (hc : c ≤ 255) : ∀ n k i p, i + n = c → n + 1200 ≤ k → Cut l p → decanterlaw02_CharCuts.l0 k l (p : Int) (c : Int) (i : Int) = some true
  | n, 0, i, p, _, h, _ => by omega
  | 0, k + 1, i, p, hi, hk, hcut => by
    have hp := hcut.1
    obtain ⟨k', rfl⟩ : ∃ k', k = k' + 1 := ⟨k - 1, by omega⟩
    have a1 := all_in l hb hl 0 (by omega) (p : Int) (k' + 1) (by omega)
    have a2 := all_in l hb hl p hp (l.length : Int) (k' + 1) (by omega)
    have a3 := all_in l hb hl 0 (by omega) (l.length : Int) (k' + 1) (by omega)
    rw [show ((0 : Nat) : Int) = 0 from rfl] at a1 a3
    have hsz : ∀ (x : Nat) (q : Int), x ≤ l.length → (⟨(allB l x q).toArray⟩ : ByteArray).size ≤ 4 * 1001 := by
      intro x q hx
      have hall : ∀ n m, (allN n l m q).length ≤ 4 * n := by
        intro n
        induction n with
        | zero => intro m; exact Nat.le_refl _
        | succ n ih =>
          intro m
          show (if (m : Int) < q ∧ m < l.length then _ else []).length ≤ _
          split
          · have h1 := rune_len ((nx l m).1 : Int)
            have h2 := ih (m + (nx l m).2)
            rw [List.length_append]
            omega
          · simp
      have := hall (l.length - x) x
      show (allB l x q).toArray.size ≤ _
      rw [List.size_toArray]
      unfold allB
      omega
    have s1 := hsz 0 (p : Int) (by omega)
    have s2 := hsz p (l.length : Int) hp
    have e : ((⟨(allB l 0 (p : Int)).toArray⟩ : ByteArray) ++ (⟨(allB l p (l.length : Int)).toArray⟩ : ByteArray)).toList = (⟨(allB l 0 (l.length : Int)).toArray⟩ : ByteArray).toList := by
      rw [Lib.toList_data, Lib.toList_data, ByteArray.data_append, Array.toList_append, hcut.2 (l.length : Int) (by omega)]
    rw [decanterlaw02_CharCuts.l0, if_neg (by omega), if_neg (by omega), a1, Option.bind_some, a2, Option.bind_some, if_pos (by omega), a3, Option.bind_some, e]
    have e2 : ((⟨(allB l 0 (l.length : Int)).toArray⟩ : ByteArray).toList != (⟨(allB l 0 (l.length : Int)).toArray⟩ : ByteArray).toList) = false := by simp
    rw [e2]
    exact cuts_end l hb hl p hcut k' (by omega)
  | n + 1, k + 1, i, p, hi, hk, hcut => by
    have hp := hcut.1
    obtain ⟨k', rfl⟩ : ∃ k', k = k' + 1 := ⟨k - 1, by omega⟩
    have ei : ((i : Int) + 1) % 256 = ((i + 1 : Nat) : Int) := by omega
    rw [decanterlaw02_CharCuts.l0, if_pos (by omega), ei]
    by_cases h : p < l.length
    · obtain ⟨f1, f2, f3, f4, f5, f6⟩ := nx_facts l hb p h
      rw [next_in l hb (by omega) p h k', Option.bind_some]
      dsimp only
      rw [wrap64_in _ (by omega)]
      exact cuts_loop l hb hl c hc n (k' + 1) (i + 1) (p + (nx l p).2) (by omega) (by omega) (cut_next l hb p hcut h)
    · rw [next_out l (p : Int) (.inr (by omega)) k', Option.bind_some]
      dsimp only
      rw [wrap64_in _ (by omega), Int.add_zero]
      exact cuts_loop l hb hl c hc n (k' + 1) (i + 1) p (by omega) (by omega) hcut
theorem CharCuts : decanterlaw02_CharCuts.Pure := by
  intro l a _ _ hb ha
  have hb : Bytes l := fun x hx => byte_of_wf (hb x hx)
  obtain ⟨c, rfl⟩ : ∃ c : Nat, a = (c : Int) := ⟨a.toNat, by have := byte_of_wf ha; omega⟩
  have hc := byte_of_wf ha
  refine ⟨3001, ?_⟩
  unfold decanterlaw02_CharCuts.f
  rw [speaks_more 1, Option.bind_some, if_pos rfl]
  by_cases h1 : (l.length : Int) > 400
  · rw [decide_eq_true h1, decanterlaw02_CharCuts.j0, if_pos rfl, speaks02]; rfl
  · rw [decide_eq_false h1, decanterlaw02_CharCuts.j0, if_neg (by decide)]
    exact cuts_loop l hb (by omega) c (by omega) c 3000 0 0 (by omega) (by omega) (cut_zero l)
end Go.Proofs.YtinjbabmpnljoaaDoor.Pure
