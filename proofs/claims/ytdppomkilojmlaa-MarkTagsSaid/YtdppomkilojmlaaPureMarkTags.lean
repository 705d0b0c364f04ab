import Derived.Test.YtdppomkilojmlaaMarkLaws
import Derived.Test.YtdppomkilojmlaaPMarkx3
namespace Go.Proofs.Ytdppomkilojmlaa.Pure
open Go.IntWalk Go.RowKit Go.Proofs.Ytdppomkilojmlaa.PMark Go.Proofs.YtdppomkilojmlaaW.PrintWords Go.Proofs.YtdppomkilojmlaaW.PrintLast

theorem tl_eq (l : List Int) (hb : MBytes l) (j : Nat) : tag_letter.f l (j : Int) = some (decide (j < l.length) && letter (rd l (j : Int))) := by
  unfold tag_letter.f
  by_cases h : j < l.length
  · have hr := mrd_byte hb j
    rw [if_pos (by omega), if_pos (by omega), wrap32_in _ (by omega), mletter_eq _ hr, Option.bind_some, decide_eq_true h, Bool.true_and]
  · rw [if_neg (by omega), decide_eq_false h, Bool.false_and]
theorem begins_some (l : List Int) (hb : MBytes l) (hl : l.length ≤ 1000) (p : Nat) (hp : p < l.length) (k : Nat) : ∃ a b, tag_Begins.f (k + 1) l (p : Int) = some (a, b) := by
  unfold tag_Begins.f
  rw [if_neg (by omega), if_neg (by omega), if_pos (by omega), if_pos (by omega), tag_Begins.j0]
  have e1 : wrap64 ((p : Int) + 1) = ((p + 1 : Nat) : Int) := by rw [wrap64_in _ (by omega)]; omega
  have e2 : wrap64 ((p : Int) + 2) = ((p + 2 : Nat) : Int) := by rw [wrap64_in _ (by omega)]; omega
  rw [e1, e2, tl_eq l hb, tl_eq l hb, Option.bind_some, Option.bind_some]
  by_cases c0 : (rd l (p : Int) != 60) = true
  · rw [if_pos c0]; exact ⟨_, _, rfl⟩
  · rw [if_neg c0]
    split
    · exact ⟨_, _, rfl⟩
    · split
      · rw [if_pos (by omega)]
        split
        · split
          · exact ⟨_, _, rfl⟩
          · exact ⟨_, _, rfl⟩
        · exact ⟨_, _, rfl⟩
      · exact ⟨_, _, rfl⟩
theorem begins_mark (l : List Int) (hb : MBytes l) (hl : l.length ≤ 1000) (p E : Nat) (hm : Mark l p E) (k : Nat) : tag_Begins.f (k + 1) l (p : Int) = some (false, false) := by
  obtain ⟨h1, h2, _, h4, h5⟩ := hm
  unfold tag_Begins.f
  rw [if_neg (by omega), if_neg (by omega), if_pos (by omega), if_pos (by omega), h4, tag_Begins.j0, if_neg (by decide)]
  have e1 : wrap64 ((p : Int) + 1) = ((p + 1 : Nat) : Int) := by rw [wrap64_in _ (by omega)]; omega
  have e2 : wrap64 ((p : Int) + 2) = ((p + 2 : Nat) : Int) := by rw [wrap64_in _ (by omega)]; omega
  rw [e1, e2, tl_eq l hb, tl_eq l hb, Option.bind_some, Option.bind_some]
  rcases h5 with h | h | ⟨h, h6⟩
  · rw [h, if_neg (by rw [Bool.and_eq_true]; intro hh; exact absurd hh.2 (by decide)), if_pos (by omega), if_pos (by omega), if_neg (by decide)]
  · rw [h, if_neg (by rw [Bool.and_eq_true]; intro hh; exact absurd hh.2 (by decide)), if_pos (by omega), if_pos (by omega), if_neg (by decide)]
  · rw [h, if_neg (by rw [Bool.and_eq_true]; intro hh; exact absurd hh.2 (by decide)), if_pos (by omega), if_pos (by omega), if_pos rfl, if_neg]
    rw [Bool.and_eq_true, decide_eq_true_eq]
    rintro ⟨h7, h8⟩
    rw [h6 h7] at h8
    cases h8
theorem tags_loop (l : List Int) (hb : MBytes l) (hl : l.length ≤ 1000) : ∀ n k p, p + n = l.length → n + 20 ≤ k → decanterlaw08_MarkTags.l0 k l (l.length : Int) (p : Int) = some true
  | n, 0, p, _, h => by omega
  | 0, k + 1, p, hp, hk => by
    rw [decanterlaw08_MarkTags.l0, if_neg (by omega)]
  | n + 1, k + 1, p, hp, hk => by
    have ih := tags_loop l hb hl n k (p + 1) (by omega) (by omega)
    have e1 : wrap64 ((p : Int) + 1) = ((p + 1 : Nat) : Int) := by rw [wrap64_in _ (by omega)]; omega
    have e2 := wrap64_in ((p : Int) + 2) (by omega)
    obtain ⟨k', rfl⟩ : ∃ k', k = k' + 12 := ⟨k - 12, by omega⟩
    obtain ⟨kd, e, ok, hr, hok⟩ := read_spec l hb hl p (by omega) k'
    rw [decanterlaw08_MarkTags.l0, if_pos (by omega), hr, Option.bind_some, e1]
    cases ok with
    | false =>
      obtain ⟨a, b, hab⟩ := begins_some l hb hl p (by omega) (k' + 11)
      rw [show k' + 12 = k' + 11 + 1 from rfl, hab, Option.bind_some, if_neg (by intro hh; cases hh)]
      exact ih
    | true =>
      obtain ⟨E, rfl, hm⟩ := hok rfl
      have hbm := begins_mark l hb hl p E hm (k' + 11)
      obtain ⟨h1, h2, h3, h4, _⟩ := hm
      rw [show k' + 12 = k' + 11 + 1 from rfl, hbm, Option.bind_some, if_pos rfl, if_neg (by intro hh; cases hh), if_pos (by omega), if_pos (by omega), if_pos h4, if_neg (by show ¬ ((E : Int) > _); omega), e2, if_neg (by show ¬ ((E : Int) < _); omega)]
      by_cases hlt : (E : Int) < (l.length : Int)
      · have e3 : wrap64 ((E : Int) - 1) = ((E - 1 : Nat) : Int) := by rw [wrap64_in _ (by omega)]; omega
        show (if (E : Int) < (l.length : Int) then _ else _) = _
        rw [if_pos hlt]
        show (if 0 ≤ wrap64 ((E : Int) - 1) then (if wrap64 ((E : Int) - 1) < (l.length : Int) then (if rd l (wrap64 ((E : Int) - 1)) = 62 then _ else _) else _) else _) = _
        rw [e3, if_pos (by omega), if_pos (by omega), if_pos (h3 (by omega))]
        exact ih
      · show (if (E : Int) < (l.length : Int) then _ else _) = _
        rw [if_neg hlt]
        exact ih
theorem MarkTags : decanterlaw08_MarkTags.Pure := by
  intro l _ _ hb
  refine ⟨2000, ?_⟩
  unfold decanterlaw08_MarkTags.f
  show (some true : Option Bool).bind _ = _
  rw [Option.bind_some, if_pos rfl]
  by_cases h1 : (l.length : Int) > 300
  · rw [decide_eq_true h1]; rfl
  · rw [decide_eq_false h1, decanterlaw08_MarkTags.j0, if_neg (by decide)]
    exact tags_loop l (fun x hx => mbyte_of_wf (hb x hx)) (by omega) l.length 1999 0 (by omega) (by omega)

end Go.Proofs.Ytdppomkilojmlaa.Pure
