import Derived.Test.YtdppomkilojmlaaRawLaws
import Derived.Test.YtdppomkilojmlaaPRawx4
namespace Go.Proofs.Ytdppomkilojmlaa.Pure
open Go.IntWalk Go.RowKit Go.Proofs.Ytdppomkilojmlaa.PRaw Go.Proofs.YtdppomkilojmlaaW.PrintWords Go.Proofs.YtdppomkilojmlaaW.PrintLast

theorem endIs_le (l : List Int) (name : ByteArray) (p : Nat) (hp : p ≤ l.length) : p ≤ endIs l name p ∧ endIs l name p ≤ l.length := by
  unfold endIs
  have := endOf_ge l name (l.length - p) p
  split
  · omega
  · split <;> omega
/-- Of any element that has a way of its own: from any place between, the same end. -/
theorem endIs_mid (l : List Int) (name : ByteArray) (h0 : kindOf name.toList ≠ 0) (p q : Nat) (hp : p ≤ l.length) (h1 : p ≤ q) (h2 : q ≤ endIs l name p) : endIs l name q = endIs l name p := by
  unfold endIs at h2 ⊢
  rw [if_neg h0] at h2
  rw [if_neg h0, if_neg h0]
  by_cases h3 : kindOf name.toList = 3
  · rw [if_pos h3, if_pos h3]
  · rw [if_neg h3] at h2
    rw [if_neg h3, if_neg h3]
    have := endOf_mid l name (l.length - p) p q h1 h2
    rwa [show p + (l.length - p) - q = l.length - q from by omega] at this
theorem next_loop (l : List Int) (name : ByteArray) (hb : Bytes l) (hl : l.length ≤ 100000) (hn : name.size ≤ 100000) (h0 : kindOf name.toList ≠ 0) (e : Nat) (he : e = endIs l name 0) : ∀ n k p, p + n = e → l.length + 20 + n < k → decanterlaw09_RawNext.l0 k l name (e : Int) (e : Int) (p : Int) = some true
  | 0, k + 1, p, hp, hk => by
    have hd : ((l.length : Int) / 2) = ((l.length / 2 : Nat) : Int) := by omega
    have e2 := wrap64_in ((l.length : Int) / 2) (by omega)
    rw [decanterlaw09_RawNext.l0, if_neg (by omega), e2, hd, raw_eq l _ hb hl (by decide) k (l.length / 2) (by omega) (by omega), Option.bind_some]
    have hk0 : kindOf (⟨#[112]⟩ : ByteArray).toList = 0 := by decide +kernel
    unfold endIs
    rw [if_pos hk0, beq_self_eq_true]
  | n + 1, k + 1, p, hp, hk => by
    have hle := endIs_le l name 0 (by omega)
    have e2 := wrap64_in ((p : Int) + 1) (by omega)
    rw [decanterlaw09_RawNext.l0, if_pos (by omega), raw_eq l name hb hl hn k p (by omega) (by omega), Option.bind_some, endIs_mid l name h0 0 p (by omega) (by omega) (by omega), ← he, if_pos rfl, e2]
    exact next_loop l name hb hl hn h0 e he n k (p + 1) (by omega) (by omega)
theorem next_j0 (l : List Int) (a : Int) (hb : Bytes l) (hl : l.length ≤ 300) (ha : 0 ≤ a ∧ a ≤ 255) : decanterlaw09_RawNext.j0 2000 l a false = some true := by
  have hm : 0 ≤ Int.tmod a 9 ∧ Int.tmod a 9 < 9 := by
    rw [Int.tmod_eq_emod_of_nonneg ha.1]; omega
  rw [decanterlaw09_RawNext.j0, if_neg (by decide), Option.bind_some]
  show (if 0 ≤ Int.tmod a 9 then (if Int.tmod a 9 < ((rnames.length : Nat) : Int) then ((raw_End.f 1999 l 0 (rdOf ByteArray.empty rnames (Int.tmod a 9))).bind fun t173 => (if t173 < 0 then (decanterlaw09_RawNext.j1 1999 l (rdOf ByteArray.empty rnames (Int.tmod a 9)) t173 true) else (if t173 > (l.length : Int) then (decanterlaw09_RawNext.j1 1999 l (rdOf ByteArray.empty rnames (Int.tmod a 9)) t173 true) else ((raw_End.f 1999 l t173 (rdOf ByteArray.empty rnames (Int.tmod a 9))).bind fun t174 => (decanterlaw09_RawNext.j1 1999 l (rdOf ByteArray.empty rnames (Int.tmod a 9)) t173 (t174 != t173)))))) else none) else none) = some true
  generalize Int.tmod a 9 = i at hm
  rw [if_pos hm.1, if_pos (show i < ((rnames.length : Nat) : Int) from hm.2)]
  have hi : kindOf (rdOf ByteArray.empty rnames i).toList ≠ 0 ∧ (rdOf ByteArray.empty rnames i).size ≤ 100000 := by
    obtain ⟨j, rfl⟩ := Int.eq_ofNat_of_zero_le hm.1
    have : ∀ j : Fin 9, kindOf (rdOf ByteArray.empty rnames (j.val : Int)).toList ≠ 0 ∧ (rdOf ByteArray.empty rnames (j.val : Int)).size ≤ 100000 := by decide +kernel
    exact this ⟨j, by omega⟩
  generalize rdOf ByteArray.empty rnames i = name at hi
  obtain ⟨h0, hn⟩ := hi
  have hle := endIs_le l name 0 (by omega)
  have hr := raw_eq l name hb (by omega) hn 1999 0 (by omega) (by omega)
  rw [show ((0 : Nat) : Int) = 0 from rfl] at hr
  rw [hr, Option.bind_some]
  have hr2 := raw_eq l name hb (by omega) hn 1999 (endIs l name 0) (by omega) (by omega)
  rw [if_neg (by omega), if_neg (by omega), hr2, Option.bind_some, endIs_mid l name h0 0 (endIs l name 0) (by omega) (by omega) (Nat.le_refl _), bne_self_eq_false, decanterlaw09_RawNext.j1, if_neg (by decide)]
  exact next_loop l name hb (by omega) hn h0 _ rfl (endIs l name 0) 1998 0 (by omega) (by omega)
theorem RawNext : decanterlaw09_RawNext.Pure := by
  intro l a hm hs hb ha
  refine ⟨2000, ?_⟩
  unfold decanterlaw09_RawNext.f
  show (some true : Option Bool).bind _ = _
  rw [Option.bind_some, if_pos rfl]
  by_cases h1 : (l.length : Int) > 300
  · rw [decide_eq_true h1]; rfl
  · rw [decide_eq_false h1]
    exact next_j0 l a (fun x hx => byte_of_wf (hb x hx)) (by omega) (byte_of_wf ha)

end Go.Proofs.Ytdppomkilojmlaa.Pure
