import Derived.Test.YtdppomkilojmlaaMarkLaws
import Derived.Test.YtdppomkilojmlaaPMarkx4
namespace Go.Proofs.Ytdppomkilojmlaa.Pure
open Go.IntWalk Go.RowKit Go.Proofs.Ytdppomkilojmlaa.PMark Go.Proofs.YtdppomkilojmlaaW.PrintWords Go.Proofs.YtdppomkilojmlaaW.PrintLast

/-- Where the first > stands from the third byte on, or that there is none. -/
def Fst (s : List Int) (E : Nat) : Prop :=
  (E = s.length ∧ ∀ j : Nat, 2 ≤ j → j < s.length → rd s (j : Int) ≠ 62) ∨ ∃ r : Nat, E = r + 1 ∧ 2 ≤ r ∧ r < s.length ∧ rd s (r : Int) = 62 ∧ ∀ j : Nat, 2 ≤ j → j < r → rd s (j : Int) ≠ 62
theorem occ_one (D : List UInt8) (j : Nat) : Lib.occAt D [62] j = true ↔ D[j]? = some 62 := by
  unfold Lib.occAt
  by_cases h : j < D.length
  · rw [List.drop_eq_getElem_cons h, List.isPrefixOf_cons_cons, List.getElem?_eq_getElem h]
    simp only [List.isPrefixOf_nil_left, Bool.and_true, beq_iff_eq, Option.some.injEq]
    exact eq_comm
  · rw [List.drop_of_length_le (by omega), List.getElem?_eq_none (by omega)]
    simp
theorem str_byte (s : List Int) (hb : MBytes s) (j : Nat) (hj : j < s.length) : (strOfNums s).data.toList[j]? = some 62 ↔ rd s (j : Int) = 62 := by
  have h2 : s[j]? = some s[j] := List.getElem?_eq_getElem hj
  have hr := hb _ (List.getElem_mem hj)
  rw [str_data, List.getElem?_map, h2]
  unfold rd
  rw [Int.toNat_natCast, List.getD_eq_getElem?_getD, h2]
  show some (UInt8.ofNat (s[j]).toNat) = some 62 ↔ s[j] = 62
  constructor
  · intro h
    have := congrArg UInt8.toNat (Option.some.inj h)
    rw [UInt8.toNat_ofNat'] at this
    change (s[j]).toNat % 256 = 62 at this
    omega
  · intro h; rw [h]; rfl
theorem behind_fst (s : List Int) (hb : MBytes s) (hl : s.length ≤ 1000) (h2 : 2 ≤ s.length) :
    ∃ E : Nat, Fst s E ∧ E ≤ s.length ∧ ∀ k : Nat, mark_behind.f (k + 2) (strOfNums s) 2 [⟨#[62]⟩] = some (E : Int) := by
  have hsz : (strOfNums s).size = s.length := strOfNums_size s
  have r0 : rdOf ByteArray.empty [(⟨#[62]⟩ : ByteArray)] 0 = ⟨#[62]⟩ := rfl
  have d0 : (⟨#[62]⟩ : ByteArray).data.toList = [62] := rfl
  have z0 : ((⟨#[62]⟩ : ByteArray).size : Int) = 1 := rfl
  have hx : strings_Index.f ((strOfNums s).extract 2 (strOfNums s).size) ⟨#[62]⟩ = some (Lib.index ((strOfNums s).data.toList.drop 2) [62]) := by rw [index_eq _ _ 2 (by omega)]
  have hst : ∀ k : Nat, mark_behind.f (k + 2) (strOfNums s) 2 [⟨#[62]⟩] = if Lib.index ((strOfNums s).data.toList.drop 2) [62] ≥ 0 then (if wrap64 (2 + Lib.index ((strOfNums s).data.toList.drop 2) [62]) < ((strOfNums s).size : Int) then some (wrap64 (wrap64 (2 + Lib.index ((strOfNums s).data.toList.drop 2) [62]) + 1)) else some ((strOfNums s).size : Int)) else some ((strOfNums s).size : Int) := by
    intro k
    unfold mark_behind.f
    show mark_behind.l0 (k + 1 + 1) (strOfNums s) 2 ((strOfNums s).size : Int) ((strOfNums s).size : Int) [⟨#[62]⟩] 1 0 = _
    rw [mark_behind.l0, if_pos (by decide), if_pos (by decide), if_pos (by decide), if_pos (by decide), if_pos (by omega), r0]
    show ((strings_Index.f ((strOfNums s).extract 2 (strOfNums s).size) _).bind _) = _
    rw [hx, Option.bind_some, show wrap64 ((0 : Int) + 1) = 1 from by decide +kernel, z0]
    have e3 : ∀ b f : Int, mark_behind.l0 (k + 1) (strOfNums s) 2 b f [⟨#[62]⟩] 1 1 = some b := fun b f => by rw [mark_behind.l0, if_neg (by decide)]
    rw [e3, e3]
  rcases Lib.index_spec ((strOfNums s).data.toList.drop 2) [62] with ⟨h, hno⟩ | ⟨r, h, hr, ho, hno⟩
  · refine ⟨s.length, .inl ⟨rfl, fun j hj hj2 he => ?_⟩, Nat.le_refl _, fun k => ?_⟩
    · have h1 := (str_byte s hb j hj2).2 he
      have h3 := hno (j - 2) (by rw [List.length_drop, size_data]; omega)
      rw [Bool.eq_false_iff] at h3
      refine h3 ((occ_one _ _).2 ?_)
      rw [List.getElem?_drop, show 2 + (j - 2) = j from by omega]
      exact h1
    · rw [hst, h, if_neg (by decide), hsz]
  · rw [occ_one, List.getElem?_drop] at ho
    have hlt : 2 + r < s.length := by
      obtain ⟨hh, _⟩ := List.getElem?_eq_some_iff.1 ho
      rw [size_data] at hh; omega
    refine ⟨r + 2 + 1, .inr ⟨r + 2, rfl, by omega, by omega, ?_, fun j hj hj2 he => ?_⟩, by omega, fun k => ?_⟩
    · rw [Nat.add_comm r 2]
      exact (str_byte s hb (2 + r) hlt).1 ho
    · have h1 := (str_byte s hb j (by omega)).2 he
      have h3 := hno (j - 2) (by omega)
      rw [Bool.eq_false_iff] at h3
      refine h3 ((occ_one _ _).2 ?_)
      rw [List.getElem?_drop, show 2 + (j - 2) = j from by omega]
      exact h1
    · have w0 : wrap64 (2 + (r : Int)) = ((2 + r : Nat) : Int) := by rw [wrap64_in _ (by omega)]; omega
      have w1 : wrap64 (((2 + r : Nat) : Int) + 1) = ((r + 2 + 1 : Nat) : Int) := by rw [wrap64_in _ (by omega)]; omega
      rw [hst, h, if_pos (by omega), w0, w1, if_pos (by omega)]
theorem read_bogus (s t : List Int) (hb : MBytes s) (hl : s.length ≤ 1000) (hs : s = 60 :: 63 :: t ∨ s = 60 :: 33 :: 91 :: t) :
    ∃ E : Nat, Fst s E ∧ ∀ k : Nat, mark_Read.f (k + 12) s 0 = some (3, (E : Int), true) := by
  have h2 : 2 ≤ s.length := by rcases hs with rfl | rfl <;> (simp only [List.length_cons]; omega)
  obtain ⟨E, hE, hE2, hbe⟩ := behind_fst s hb hl h2
  refine ⟨E, hE, fun k => ?_⟩
  unfold mark_Read.f
  rw [if_neg (by decide), decide_eq_false (by omega), show k + 12 = k + 11 + 1 from rfl, mark_Read.j0, if_neg (by decide), if_pos (by decide), if_pos (by omega), Int.toNat_zero, List.drop_zero]
  have hbk := hbe (k + 9)
  rw [show k + 9 + 2 = k + 11 from rfl] at hbk
  have hu : (strOfNums s).data.toList = s.map fun n => UInt8.ofNat n.toNat := str_data s
  have hsz : (strOfNums s).size = s.length := strOfNums_size s
  have hw : wrap64 (0 + (E : Int)) = (E : Int) := by rw [wrap64_in _ (by omega)]; omega
  generalize strOfNums s = u at hu hbk hsz
  rcases hs with rfl | rfl
  · have hu' : u.data.toList = 60 :: 63 :: (t.map fun n => UInt8.ofNat n.toNat) := hu
    rw [hp_eq, Option.bind_some, hu', if_neg (show ¬ (⟨#[60, 33, 45, 45]⟩ : ByteArray).data.toList.isPrefixOf (60 :: 63 :: (t.map fun n => UInt8.ofNat n.toNat)) = true by simp [List.isPrefixOf])]
    rw [hp_eq, Option.bind_some, hu', if_neg (show ¬ (⟨#[60, 33]⟩ : ByteArray).data.toList.isPrefixOf (60 :: 63 :: (t.map fun n => UInt8.ofNat n.toNat)) = true by simp [List.isPrefixOf])]
    rw [hp_eq, Option.bind_some, hu', if_pos (show (⟨#[60, 63]⟩ : ByteArray).data.toList.isPrefixOf (60 :: 63 :: (t.map fun n => UInt8.ofNat n.toNat)) = true by simp [List.isPrefixOf])]
    rw [hbk, Option.bind_some, hw]
  · have hu' : u.data.toList = 60 :: 33 :: 91 :: (t.map fun n => UInt8.ofNat n.toNat) := hu
    rw [hp_eq, Option.bind_some, hu', if_neg (show ¬ (⟨#[60, 33, 45, 45]⟩ : ByteArray).data.toList.isPrefixOf (60 :: 33 :: 91 :: (t.map fun n => UInt8.ofNat n.toNat)) = true by simp [List.isPrefixOf])]
    rw [hp_eq, Option.bind_some, hu', if_pos (show (⟨#[60, 33]⟩ : ByteArray).data.toList.isPrefixOf (60 :: 33 :: 91 :: (t.map fun n => UInt8.ofNat n.toNat)) = true by simp [List.isPrefixOf])]
    rw [hbk, Option.bind_some]
    unfold class_Small.f
    rw [if_pos (by omega), Option.bind_some, hp_eq, Option.bind_some, hw]
    have hs' : (class_Small.smallBytes u).data.toList = 60 :: 33 :: 91 :: ((t.map fun n => UInt8.ofNat n.toNat).map class_Small.lowB) := by
      show u.data.toList.map class_Small.lowB = _
      rw [hu']; rfl
    rw [hs', if_neg (show ¬ (⟨#[60, 33, 100, 111, 99, 116, 121, 112, 101]⟩ : ByteArray).data.toList.isPrefixOf (60 :: 33 :: 91 :: ((t.map fun n => UInt8.ofNat n.toNat).map class_Small.lowB)) = true by simp [List.isPrefixOf])]
theorem bogus_loop (s : List Int) (hl : s.length ≤ 1000) (E : Nat) (hE : Fst s E) (hr : ∀ k : Nat, mark_Read.f (k + 12) s 0 = some (3, (E : Int), true)) : ∀ n k i : Nat, i + n = s.length → 2 ≤ i → n + 20 ≤ k → (∀ j : Nat, 2 ≤ j → j < i → rd s (j : Int) ≠ 62) →
    decanterlaw08_MarkBogus.l0 k s (s.length : Int) (i : Int) = some true
  | n, 0, i, _, _, h, _ => by omega
  | 0, k + 1, i, hi, h2, hk, hno => by
    obtain ⟨k', rfl⟩ : ∃ k', k = k' + 12 := ⟨k - 12, by omega⟩
    rw [decanterlaw08_MarkBogus.l0, if_neg (by omega), hr, Option.bind_some, if_pos rfl, if_pos rfl]
    rcases hE with ⟨rfl, _⟩ | ⟨r, rfl, h3, h4, h5, _⟩
    · simp
    · exact absurd h5 (hno r h3 (by omega))
  | n + 1, k + 1, i, hi, h2, hk, hno => by
    have e1 : wrap64 ((i : Int) + 1) = ((i + 1 : Nat) : Int) := by rw [wrap64_in _ (by omega)]; omega
    rw [decanterlaw08_MarkBogus.l0, if_pos (by omega), if_pos (by omega), e1]
    by_cases c1 : rd s (i : Int) = 62
    · obtain ⟨k', rfl⟩ : ∃ k', k = k' + 12 := ⟨k - 12, by omega⟩
      rw [if_pos c1, hr, Option.bind_some, if_pos rfl, if_pos rfl]
      rcases hE with ⟨_, h3⟩ | ⟨r, rfl, h3, h4, h5, h6⟩
      · exact absurd c1 (h3 i h2 (by omega))
      · have : r = i := by
          rcases Nat.lt_trichotomy r i with h | h | h
          · exact absurd h5 (hno r h3 h)
          · exact h
          · exact absurd c1 (h6 i h2 h)
        subst this
        simp
    · rw [if_neg c1]
      refine bogus_loop s hl E hE hr n k (i + 1) (by omega) (by omega) (by omega) fun j hj hj2 => ?_
      rcases Nat.lt_or_ge j i with h | h
      · exact hno j hj h
      · obtain rfl : j = i := by omega
        exact c1
theorem bogus_all (s t : List Int) (hb : MBytes s) (hl : s.length ≤ 300) (hs : s = 60 :: 63 :: t ∨ s = 60 :: 33 :: 91 :: t) (k : Nat) : decanterlaw08_MarkBogus.l0 (k + 400) s (s.length : Int) 2 = some true := by
  obtain ⟨E, hE, hr⟩ := read_bogus s t hb (by omega) hs
  have h2 : 2 ≤ s.length := by rcases hs with rfl | rfl <;> (simp only [List.length_cons]; omega)
  exact bogus_loop s (by omega) E hE hr (s.length - 2) (k + 400) 2 (by omega) (by omega) (by omega) (fun j _ _ => by omega)
theorem MarkBogus : decanterlaw08_MarkBogus.Pure := by
  intro l bang _ _ hb
  refine ⟨2000, ?_⟩
  unfold decanterlaw08_MarkBogus.f
  show (some true : Option Bool).bind _ = _
  rw [Option.bind_some, if_pos rfl]
  by_cases h1 : (l.length : Int) > 200
  · rw [decide_eq_true h1]; rfl
  · have hm : MBytes l := fun x hx => mbyte_of_wf (hb x hx)
    have hm1 : MBytes (60 :: 63 :: l) := fun x hx => by
      rcases List.mem_cons.1 hx with rfl | hx
      · decide
      rcases List.mem_cons.1 hx with rfl | hx
      · decide
      exact hm x hx
    have hm2 : MBytes (60 :: 33 :: 91 :: l) := fun x hx => by
      rcases List.mem_cons.1 hx with rfl | hx
      · decide
      rcases List.mem_cons.1 hx with rfl | hx
      · decide
      rcases List.mem_cons.1 hx with rfl | hx
      · decide
      exact hm x hx
    rw [decide_eq_false h1, decanterlaw08_MarkBogus.j0, if_neg (by decide), decanterlaw08_MarkBogus.j1, decanterlaw08_MarkBogus.j1]
    have l1 : ([60, 33, 91] : List Int).length = 3 := rfl
    have l2 : ([60, 63] : List Int).length = 2 := rfl
    have a1 := bogus_all (60 :: 63 :: l) l hm1 (by simp only [List.length_cons]; omega) (.inl rfl) 1598
    have a2 := bogus_all (60 :: 33 :: 91 :: l) l hm2 (by simp only [List.length_cons]; omega) (.inr rfl) 1598
    cases bang
    · rw [if_neg (by decide), l2, if_pos (by omega)]
      exact a1
    · rw [if_pos rfl, l1, if_pos (by omega)]
      exact a2
end Go.Proofs.Ytdppomkilojmlaa.Pure
