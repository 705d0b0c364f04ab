import Derived.Test.YtnmjocoopbfpnaaDoorRefReadB
namespace Go.Proofs.YtnmjocoopbfpnaaDoor.RefModelB
open Go.RowKit Go.Proofs.YtnmjocoopbfpnaaDoor.PRefA Go.Proofs.YtnmjocoopbfpnaaDoor.EntBaseR Go.Proofs.YtnmjocoopbfpnaaDoor.EntRefR Go.Proofs.YtnmjocoopbfpnaaDoor.CharPure Go.Proofs.YtnmjocoopbfpnaaDoorW.PrintWords Go.Proofs.YtnmjocoopbfpnaaDoorW.PrintLast Go.Proofs.YtnmjocoopbfpnaaDoorW.PrintMore

theorem text0 : ((List.range 61).all fun m => decide ((T m).length ≤ 8)) = true := by kernel_rfl
theorem rdm_len (l : List Int) (p : Nat) (at_ : Bool) (t : List UInt8) (e : Nat) (h : rdm l p at_ = some (t, e)) : t.length ≤ 8 := by
  unfold rdm at h
  split at h
  · split at h
    · obtain ⟨⟨c, e'⟩, hn, he⟩ := Option.map_eq_some_iff.1 h
      obtain ⟨rfl, -⟩ := Prod.mk.inj he
      have := (rune_len (c : Int)).2
      dsimp only
      omega
    · obtain ⟨⟨c, e'⟩, hn, he⟩ := Option.map_eq_some_iff.1 h
      obtain ⟨rfl, -⟩ := Prod.mk.inj he
      obtain ⟨h0, -, -, hbst⟩ := nam_le _ _ _ _ hn
      have hi := best_is (toU (l.drop (p + 1))) (min (l.drop (p + 1)).length 8)
      have hbst' : best (toU (l.drop (p + 1))) (min (l.drop (p + 1)).length 8) = (e', c) := hbst
      rw [hbst'] at hi
      obtain ⟨m, hm, -, rfl⟩ := lk_some _ _ (hi h0)
      exact of_decide_eq_true (List.all_eq_true.1 text0 m (List.mem_range.2 hm))
  · cases h
/-- The text from a place to the end, its references read. -/
def txt : Nat → List Int → Nat → Bool → List UInt8
  | 0, _, _, _ => []
  | d + 1, l, p, at_ => if p < l.length then (match rdm l p at_ with | some te => te.1 ++ txt d l te.2 at_ | none => runeB ((nx l p).1 : Int) ++ txt d l (p + (nx l p).2) at_) else []
theorem rdI_in (l : List Int) (p : Nat) (at_ : Bool) (hp : p < l.length) : rdI l (p : Int) at_ = rdm l p at_ := by
  unfold rdI
  rw [if_pos ⟨by omega, by omega⟩, Int.toNat_natCast]
theorem txt_prog (l : List Int) (hb : Bytes l) (hl : l.length ≤ 3000) (at_ : Bool) : ∀ (d p k : Nat) (acc : List UInt8), l.length ≤ p + d → p ≤ l.length → d + 3100 ≤ k → acc.length ≤ 8 * p → ref_Text.l0 k l (p : Int) (l.length : Int) at_ acc = some ⟨(acc ++ txt d l p at_).toArray⟩
  | 0, p, k + 1, acc, hd, hp, hk, ha => by
    rw [ref_Text.l0, if_neg (by omega), txt, List.append_nil]
  | d + 1, p, k + 1, acc, hd, hp, hk, ha => by
    rw [ref_Text.l0, txt]
    by_cases h : p < l.length
    · rw [if_pos (by omega), if_pos h, read_eq l hb hl _ _ k (by omega), Option.bind_some, rdI_in l p at_ h]
      cases hr : rdm l p at_ with
      | some te =>
        obtain ⟨t, e⟩ := te
        have hle := rdm_end l p at_ t e hr
        have hlen := rdm_len l p at_ t e hr
        unfold pres
        dsimp only
        rw [if_pos rfl, ofL_size, if_pos (by omega), ofL_list, txt_prog l hb hl at_ d e k (acc ++ t) (by omega) (by omega) (by omega) (by rw [List.length_append]; omega), List.append_assoc]
      | none =>
        unfold pres
        dsimp only
        obtain ⟨k, rfl⟩ : ∃ k', k = k' + 1 := ⟨k - 1, by omega⟩
        have hf := nx_facts l hb p h
        have hru := (rune_len ((nx l p).1 : Int)).2
        rw [if_neg (by decide), next_in l hb (by omega) p h k, Option.bind_some]
        dsimp only
        rw [if_pos ⟨by omega, by omega, by omega⟩, show mx ((nx l p).2 : Int) 1 = ((nx l p).2 : Int) by unfold mx; rw [if_neg (by omega)], w64 _ (by omega) (by omega), show (p : Int) + ((nx l p).2 : Int) = ((p + (nx l p).2 : Nat) : Int) by omega]
        rw [txt_prog l hb hl at_ d (p + (nx l p).2) (k + 1) (acc ++ runeB ((nx l p).1 : Int)) (by omega) (by omega) (by omega) (by rw [List.length_append]; omega), List.append_assoc]
    · rw [if_neg (by omega), if_neg h, List.append_nil]
theorem app_ofL (x : ByteArray) (t : List UInt8) : (x ++ ofL t).size = x.size + t.length := by rw [ByteArray.size_append, ofL_size]
theorem ofL_app (a b : List UInt8) : ofL (a ++ b) = ofL a ++ ofL b := by
  rw [← ofL_data (ofL a ++ ofL b), app_list, ofL_list, ofL_list]
theorem txt_doc (l : List Int) (hb : Bytes l) (hl : l.length ≤ 3000) (at_ : Bool) : ∀ (d p k : Nat) (acc : List UInt8), l.length ≤ p + d → p ≤ l.length → d + 6100 ≤ k → acc.length ≤ 8 * p → decanterref05_Text.l0 k (l.length : Int) at_ (ofL acc) l (p : Int) = some (ofL (acc ++ txt d l p at_))
  | 0, p, k + 1, acc, hd, hp, hk, ha => by
    rw [decanterref05_Text.l0, if_neg (by omega), txt, List.append_nil]
  | d + 1, p, k + 1, acc, hd, hp, hk, ha => by
    rw [decanterref05_Text.l0, txt]
    by_cases h : p < l.length
    · rw [if_pos (by omega), if_pos h, doc_eq l hb hl _ _ k (by omega), Option.bind_some, rdI_in l p at_ h]
      cases hr : rdm l p at_ with
      | some te =>
        obtain ⟨t, e⟩ := te
        have hle := rdm_end l p at_ t e hr
        have hlen := rdm_len l p at_ t e hr
        unfold dres
        dsimp only
        rw [if_pos (by omega), ofL_size, ofL_size, if_pos (by omega), ← ofL_app, txt_doc l hb hl at_ d e k (acc ++ t) (by omega) (by omega) (by omega) (by rw [List.length_append]; omega), List.append_assoc]
      | none =>
        unfold dres
        dsimp only
        obtain ⟨k, rfl⟩ : ∃ k', k = k' + 11 := ⟨k - 11, by omega⟩
        have hf := nx_facts l hb p h
        have hru := (rune_len ((nx l p).1 : Int)).2
        obtain ⟨u, hu, hm, -⟩ := ref_utf (nx l p).1 hf.2.2.2.2.2
        have hs : strOfNums u = ofL (runeB ((nx l p).1 : Int)) := by
          rw [← ofL_data (strOfNums u), ← hm]
          rfl
        rw [if_neg (by decide), ref_next_in l hb (by omega) p h k, Option.bind_some]
        dsimp only
        rw [hu, Option.bind_some, hs, ofL_size, ofL_size, if_pos (by omega), w64 _ (by omega) (by omega), show (p : Int) + ((nx l p).2 : Int) = ((p + (nx l p).2 : Nat) : Int) by omega, ← ofL_app]
        rw [txt_doc l hb hl at_ d (p + (nx l p).2) (k + 11) (acc ++ runeB ((nx l p).1 : Int)) (by omega) (by omega) (by omega) (by rw [List.length_append]; omega), List.append_assoc]
    · rw [if_neg (by omega), if_neg h, List.append_nil]
theorem text_both (l : List Int) (hb : Bytes l) (hl : l.length ≤ 3000) (at_ : Bool) (i j : Nat) (hij : i ≤ j) (hj : j ≤ l.length) (k : Nat) (hk : 15000 ≤ k) : ref_Text.f k l (i : Int) (j : Int) at_ = some (ofL (txt (j - i) (l.take j) i at_)) ∧ decanterref05_Text.f k l (i : Int) (j : Int) at_ = some (ofL (txt (j - i) (l.take j) i at_)) := by
  have hlen : (l.take j).length = j := by rw [List.length_take]; omega
  have h1 := txt_prog (l.take j) (bytes_take hb j) (by omega) at_ (j - i) i k [] (by omega) (by omega) (by omega) (Nat.zero_le _)
  have h2 := txt_doc (l.take j) (bytes_take hb j) (by omega) at_ (j - i) i k [] (by omega) (by omega) (by omega) (Nat.zero_le _)
  rw [hlen] at h1 h2
  unfold ref_Text.f decanterref05_Text.f
  rw [if_pos ⟨by omega, by omega⟩, if_pos (by omega), if_pos (by omega), Int.toNat_natCast]
  exact ⟨h1, h2⟩
end Go.Proofs.YtnmjocoopbfpnaaDoor.RefModelB
