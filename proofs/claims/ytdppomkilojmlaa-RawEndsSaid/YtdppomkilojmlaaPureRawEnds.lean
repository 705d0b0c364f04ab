import Derived.Test.YtdppomkilojmlaaRawLaws
namespace Go.Proofs.Ytdppomkilojmlaa.Pure
open Go.IntWalk Go.RowKit Go.Proofs.Ytdppomkilojmlaa.PRaw Go.Proofs.YtdppomkilojmlaaW.PrintWords Go.Proofs.YtdppomkilojmlaaW.PrintLast

theorem ends_loop (l : List Int) (name : ByteArray) (hb : Bytes l) (hl : l.length ≤ 100000) (hn : name.size ≤ 100000) : ∀ n k p, p + n = l.length + 1 → l.length + name.size + 20 + n < k → decanterlaw09_RawEnds.l0 k l name (l.length + 1 : Nat) (p : Int) = some true
  | 0, k + 1, p, hp, hk => by
    rw [decanterlaw09_RawEnds.l0, if_neg (by omega)]
    obtain ⟨k', rfl⟩ : ∃ k', k = k' + 10 := ⟨k - 10, by omega⟩
    rw [rkind_eq, kind_eq name (k' + 8), Option.bind_some, Option.bind_some, beq_self_eq_true]
  | n + 1, k + 1, p, hp, hk => by
    have e2 := wrap64_in ((p : Int) + 1) (by omega)
    rw [decanterlaw09_RawEnds.l0, if_pos (by omega), raw_eq l name hb hl hn k p (by omega) (by omega), ref_eq l name hb hl hn k p (by omega) (by omega), Option.bind_some, Option.bind_some, if_pos rfl, e2]
    exact ends_loop l name hb hl hn n k (p + 1) (by omega) (by omega)
theorem RawEnds : decanterlaw09_RawEnds.Pure := by
  intro l name hm hs hb hn
  refine ⟨2000, ?_⟩
  unfold decanterlaw09_RawEnds.f
  show (some true : Option Bool).bind _ = _
  rw [Option.bind_some, if_pos rfl]
  by_cases h1 : (l.length : Int) > 300
  · rw [if_pos h1]; rfl
  · rw [if_neg h1]
    by_cases h2 : (name.size : Int) > 40
    · rw [decide_eq_true h2]; rfl
    · rw [decide_eq_false h2]
      have e1 := wrap64_in ((l.length : Int) + 1) (by omega)
      rw [decanterlaw09_RawEnds.j0, if_neg (by decide), e1]
      exact ends_loop l name (fun x hx => byte_of_wf (hb x hx)) (by omega) (by omega) (l.length + 1) 1999 0 (by omega) (by omega)

end Go.Proofs.Ytdppomkilojmlaa.Pure
