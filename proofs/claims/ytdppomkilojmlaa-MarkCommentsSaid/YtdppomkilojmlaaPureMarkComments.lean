import Derived.Test.YtdppomkilojmlaaMarkLaws
import Derived.Test.YtdppomkilojmlaaPMarkx3
namespace Go.Proofs.Ytdppomkilojmlaa.Pure
open Go.IntWalk Go.RowKit Go.Proofs.Ytdppomkilojmlaa.PMark Go.Proofs.YtdppomkilojmlaaW.PrintWords Go.Proofs.YtdppomkilojmlaaW.PrintLast

theorem occ_front (F T P : List UInt8) (hF : ∀ x ∈ F, x ≠ 45) (j : Nat) (hj : j < F.length) : Lib.occAt (F ++ T) (45 :: P) j = false := by
  unfold Lib.occAt
  rw [List.drop_append, List.drop_eq_getElem_cons hj, List.cons_append, List.isPrefixOf_cons_cons, Bool.and_eq_false_iff]
  left
  rw [beq_eq_false_iff_ne]
  exact fun h => hF _ (List.getElem_mem hj) h.symm
theorem occ_at (F T P : List UInt8) (i : Nat) : Lib.occAt (F ++ T) P (F.length + i) = P.isPrefixOf (T.drop i) := by
  unfold Lib.occAt
  rw [List.drop_append, List.drop_of_length_le (by omega), List.nil_append, Nat.add_sub_cancel_left]
theorem ix_first (F T P : List UInt8) (hF : ∀ x ∈ F, x ≠ 45) (m : Nat) (hm : m ≤ T.length) (h1 : (45 :: P : List UInt8).isPrefixOf (T.drop m) = true) (h2 : ∀ i : Nat, i < m → (45 :: P : List UInt8).isPrefixOf (T.drop i) = false) : Lib.index (F ++ T) (45 :: P) = ((F.length + m : Nat) : Int) := by
  refine Lib.index_first (by rw [List.length_append]; omega) (by rw [occ_at]; exact h1) fun j hj => ?_
  by_cases hlt : j < F.length
  · exact occ_front F T P hF j hlt
  · obtain ⟨i, rfl⟩ : ∃ i, j = F.length + i := ⟨j - F.length, by omega⟩
    rw [occ_at]
    exact h2 i (by omega)
theorem ix_late (F T P : List UInt8) (hF : ∀ x ∈ F, x ≠ 45) : Lib.index (F ++ T) (45 :: P) = -1 ∨ ∃ r : Nat, Lib.index (F ++ T) (45 :: P) = (r : Int) ∧ F.length ≤ r ∧ r ≤ F.length + T.length := by
  rcases Lib.index_spec (F ++ T) (45 :: P) with ⟨h, _⟩ | ⟨r, h, hr, ho, _⟩
  · exact .inl h
  · refine .inr ⟨r, h, ?_, by rw [List.length_append] at hr; omega⟩
    rcases Nat.lt_or_ge r F.length with hlt | hge
    · rw [occ_front F T P hF r hlt] at ho; cases ho
    · exact hge
/-- What stands behind the first four bytes of what is read. -/
theorem comment_two (u : ByteArray) (F T : List UInt8) (hs : u.size ≤ 100000) (hu : u.data.toList = 60 :: 33 :: 45 :: 45 :: (F ++ T)) (hF : ∀ x ∈ F, x ≠ 45) (hG : ∀ x ∈ F, x ≠ 62) (hT : T = [45, 45, 62, 120, 45, 45, 62] ∨ T = [45, 45, 33, 62, 120, 45, 45, 62]) (k : Nat) :
    mark_comment.f (k + 10) u = some ((4 + F.length + (T.length - 4) : Nat) : Int) := by
  have hsz : u.size = 4 + F.length + T.length := by rw [← size_data, hu]; simp only [List.length_cons, List.length_append]; omega
  unfold mark_comment.f
  rw [Option.bind_some]
  have hd : (u.extract 4 u.size).data.toList = F ++ T := by rw [Lib.extract_to_end u 4, hu]; rfl
  show mark_comment.l0 (k + 9 + 1) u [⟨#[62]⟩, ⟨#[45, 62]⟩] 2 0 = _
  rw [mark_comment.l0, if_pos (by decide), if_pos (by decide), if_pos (by decide), if_pos (by omega), hp_eq, Option.bind_some, hd]
  have n1 : ¬ ((rdOf ByteArray.empty [(⟨#[62]⟩ : ByteArray), (⟨#[45, 62]⟩ : ByteArray)] 0).data.toList.isPrefixOf (F ++ T)) = true := by
    change ¬ ([62] : List UInt8).isPrefixOf (F ++ T) = true
    cases F with
    | nil => rcases hT with rfl | rfl <;> decide
    | cons x F => 
      rw [List.cons_append, List.isPrefixOf_cons_cons, Bool.and_eq_true, beq_iff_eq]
      exact fun h => hG x (List.mem_cons_self ..) h.1.symm
  have n2 : ¬ ((rdOf ByteArray.empty [(⟨#[62]⟩ : ByteArray), (⟨#[45, 62]⟩ : ByteArray)] 1).data.toList.isPrefixOf (F ++ T)) = true := by
    change ¬ ([45, 62] : List UInt8).isPrefixOf (F ++ T) = true
    cases F with
    | nil => rcases hT with rfl | rfl <;> decide
    | cons x F => 
      rw [List.cons_append, List.isPrefixOf_cons_cons, Bool.and_eq_true, beq_iff_eq]
      exact fun h => hF x (List.mem_cons_self ..) h.1.symm
  rw [if_neg n1, show wrap64 ((0 : Int) + 1) = 1 from by decide +kernel, show k + 9 = k + 8 + 1 from rfl, mark_comment.l0, if_pos (by decide), if_pos (by decide), if_pos (by decide), if_pos (by omega), hp_eq, Option.bind_some, hd, if_neg n2, show wrap64 ((1 : Int) + 1) = 2 from by decide +kernel, show k + 8 = k + 7 + 1 from rfl, mark_comment.l0, if_neg (by decide)]
  have hx : ∀ e : ByteArray, strings_Index.f (u.extract 4 u.size) e = some (Lib.index (F ++ T) e.data.toList) := fun e => by rw [index_eq u e 4 hs, hu]; rfl
  show (mark_behind.f (k + 6 + 1) u 4 [⟨#[45, 45, 62]⟩, ⟨#[45, 45, 33, 62]⟩]).bind _ = _
  unfold mark_behind.f
  show (mark_behind.l0 (k + 6 + 1) u 4 (u.size : Int) (u.size : Int) [⟨#[45, 45, 62]⟩, ⟨#[45, 45, 33, 62]⟩] 2 0).bind _ = _
  have hc : (([⟨#[45, 45, 62]⟩, ⟨#[45, 45, 33, 62]⟩] : List ByteArray).length : Int) = 2 := rfl
  have r0 : rdOf ByteArray.empty [(⟨#[45, 45, 62]⟩ : ByteArray), ⟨#[45, 45, 33, 62]⟩] 0 = ⟨#[45, 45, 62]⟩ := rfl
  have r1 : rdOf ByteArray.empty [(⟨#[45, 45, 62]⟩ : ByteArray), ⟨#[45, 45, 33, 62]⟩] 1 = ⟨#[45, 45, 33, 62]⟩ := rfl
  have d0 : (⟨#[45, 45, 62]⟩ : ByteArray).data.toList = 45 :: [45, 62] := rfl
  have d1 : (⟨#[45, 45, 33, 62]⟩ : ByteArray).data.toList = 45 :: [45, 33, 62] := rfl
  have z0 : ((⟨#[45, 45, 62]⟩ : ByteArray).size : Int) = 3 := rfl
  have z1 : ((⟨#[45, 45, 33, 62]⟩ : ByteArray).size : Int) = 4 := rfl
  rw [mark_behind.l0, if_pos (by decide), if_pos (by decide), if_pos (by decide), if_pos (by decide), if_pos (by omega), r0]
  show ((strings_Index.f (u.extract 4 u.size) _).bind _).bind _ = _
  rw [hx, Option.bind_some, d0, show wrap64 ((0 : Int) + 1) = 1 from by decide +kernel, z0]
  have e2 : ∀ best first : Int, mark_behind.l0 (k + 6) u 4 best first [⟨#[45, 45, 62]⟩, ⟨#[45, 45, 33, 62]⟩] 2 1 = if Lib.index (F ++ T) (45 :: [45, 33, 62]) ≥ 0 then (if wrap64 (4 + Lib.index (F ++ T) (45 :: [45, 33, 62])) < first then some (wrap64 (wrap64 (4 + Lib.index (F ++ T) (45 :: [45, 33, 62])) + 4)) else some best) else some best := by
    intro best first
    rw [show k + 6 = k + 5 + 1 from rfl, mark_behind.l0, if_pos (by decide), if_pos (by decide), if_pos (by decide), if_pos (by decide), if_pos (by omega), r1]
    show ((strings_Index.f (u.extract 4 u.size) _).bind _) = _
    rw [hx, Option.bind_some, d1, show wrap64 ((1 : Int) + 1) = 2 from by decide +kernel, z1]
    have e3 : ∀ b f : Int, mark_behind.l0 (k + 5) u 4 b f [⟨#[45, 45, 62]⟩, ⟨#[45, 45, 33, 62]⟩] 2 2 = some b := fun b f => by rw [show k + 5 = k + 4 + 1 from rfl, mark_behind.l0, if_neg (by decide)]
    rw [e3, e3]
  rw [e2, e2]
  clear hc z0 z1 r0 r1 d0 d1 hx e2 n1 n2 hd hu
  rcases hT with rfl | rfl
  · have i0 := ix_first F [45, 45, 62, 120, 45, 45, 62] [45, 62] hF 0 (by decide) (by decide) (by omega)
    have hl : ([45, 45, 62, 120, 45, 45, 62] : List UInt8).length = 7 := rfl
    rw [hl] at hsz ⊢
    have w0 : wrap64 (4 + ((F.length + 0 : Nat) : Int)) = ((4 + F.length : Nat) : Int) := by rw [wrap64_in _ (by omega)]; omega
    have w1 : wrap64 (((4 + F.length : Nat) : Int) + 3) = ((4 + F.length + 3 : Nat) : Int) := by rw [wrap64_in _ (by omega)]; omega
    rw [i0, w0, w1, if_pos (by omega), if_pos (by omega)]
    rcases ix_late F [45, 45, 62, 120, 45, 45, 62] [45, 33, 62] hF with h | ⟨r, h, hr, hr2⟩
    · rw [h, if_neg (by decide)]; exact (Option.bind_some _ _).trans (congrArg some (by omega))
    · rw [h, if_pos (by omega)]
      rw [hl] at hr2
      have w2 : wrap64 (4 + (r : Int)) = ((4 + r : Nat) : Int) := by rw [wrap64_in _ (by omega)]; omega
      rw [w2, if_neg (by omega)]; exact (Option.bind_some _ _).trans (congrArg some (by omega))
  · have i0 := ix_first F [45, 45, 33, 62, 120, 45, 45, 62] [45, 62] hF 5 (by decide) (by decide) (by decide)
    have i1 := ix_first F [45, 45, 33, 62, 120, 45, 45, 62] [45, 33, 62] hF 0 (by decide) (by decide) (by omega)
    have hl : ([45, 45, 33, 62, 120, 45, 45, 62] : List UInt8).length = 8 := rfl
    rw [hl] at hsz ⊢
    have w0 : wrap64 (4 + ((F.length + 0 : Nat) : Int)) = ((4 + F.length : Nat) : Int) := by rw [wrap64_in _ (by omega)]; omega
    have w1 : wrap64 (4 + ((F.length + 5 : Nat) : Int)) = ((4 + F.length + 5 : Nat) : Int) := by rw [wrap64_in _ (by omega)]; omega
    have w2 : wrap64 (((4 + F.length : Nat) : Int) + 4) = ((4 + F.length + 4 : Nat) : Int) := by rw [wrap64_in _ (by omega)]; omega
    rw [i0, i1, w0, w1, w2, if_pos (by omega), if_pos (by omega), if_pos (by omega), if_pos (by omega)]; exact (Option.bind_some _ _).trans (congrArg some (by omega))
theorem byte_ne {x : Int} {c : Nat} (hb : 0 ≤ x ∧ x ≤ 255) (hc : c < 256) (h : x ≠ (c : Int)) : UInt8.ofNat x.toNat ≠ UInt8.ofNat c := by
  intro he
  have := congrArg UInt8.toNat he
  rw [UInt8.toNat_ofNat', UInt8.toNat_ofNat'] at this
  omega
theorem read_comment (G E : List Int) (hG : ∀ x ∈ G, (0 ≤ x ∧ x ≤ 255) ∧ x ≠ 62 ∧ x ≠ 45) (hl : G.length ≤ 1000) (hE : E = [45, 45, 62] ∨ E = [45, 45, 33, 62]) (k : Nat) :
    mark_Read.f (k + 12) ((([60, 33, 45, 45] : List Int) ++ G ++ E) ++ [120, 45, 45, 62]) 0 = some (1, (((([60, 33, 45, 45] : List Int) ++ G ++ E).length : Nat) : Int), true) := by
  have hEl : E.length ≤ 4 := by rcases hE with rfl | rfl <;> decide
  have hlen : ((([60, 33, 45, 45] : List Int) ++ G ++ E) ++ [120, 45, 45, 62]).length = 8 + G.length + E.length := by simp only [List.length_append, List.length_cons, List.length_nil] <;> omega
  have hlen2 : (([60, 33, 45, 45] : List Int) ++ G ++ E).length = 4 + G.length + E.length := by simp only [List.length_append, List.length_cons, List.length_nil] <;> omega
  unfold mark_Read.f
  rw [if_neg (by decide), hlen, hlen2, decide_eq_false (by omega), show k + 12 = k + 11 + 1 from rfl, mark_Read.j0, if_neg (by decide), if_pos (by decide), if_pos (by rw [hlen]; omega)]
  have hu : (strOfNums (((([60, 33, 45, 45] : List Int) ++ G ++ E) ++ [120, 45, 45, 62]).drop (0 : Int).toNat)).data.toList = 60 :: 33 :: 45 :: 45 :: (G.map (fun n => UInt8.ofNat n.toNat) ++ (E.map (fun n => UInt8.ofNat n.toNat) ++ [120, 45, 45, 62])) := by
    rw [str_data]
    simp only [Int.toNat_zero, List.drop_zero, List.map_append, List.append_assoc]
    rfl
  have hs : (strOfNums (((([60, 33, 45, 45] : List Int) ++ G ++ E) ++ [120, 45, 45, 62]).drop (0 : Int).toNat)).size ≤ 100000 := by
    rw [strOfNums_size, Int.toNat_zero, List.drop_zero, hlen]; omega
  generalize strOfNums (((([60, 33, 45, 45] : List Int) ++ G ++ E) ++ [120, 45, 45, 62]).drop (0 : Int).toNat) = u at hu hs
  have hp : (⟨#[60, 33, 45, 45]⟩ : ByteArray).data.toList.isPrefixOf u.data.toList = true := by
    rw [hu]; rfl
  rw [hp_eq, Option.bind_some, if_pos hp]
  have hcm := comment_two u (G.map (fun n => UInt8.ofNat n.toNat)) (E.map (fun n => UInt8.ofNat n.toNat) ++ [120, 45, 45, 62]) hs hu
    (fun x hx => by obtain ⟨y, hy, rfl⟩ := List.mem_map.1 hx; exact byte_ne (c := 45) (hG y hy).1 (by decide) (hG y hy).2.2)
    (fun x hx => by obtain ⟨y, hy, rfl⟩ := List.mem_map.1 hx; exact byte_ne (c := 62) (hG y hy).1 (by decide) (hG y hy).2.1)
    (by rcases hE with rfl | rfl; exact .inl rfl; exact .inr rfl) (k + 1)
  rw [show k + 11 = k + 1 + 10 from rfl, hcm, Option.bind_some, List.length_map, List.length_append, List.length_map]
  have e1 : ([120, 45, 45, 62] : List UInt8).length = 4 := rfl
  have e2 : wrap64 (0 + ((4 + G.length + (E.length + ([120, 45, 45, 62] : List UInt8).length - 4) : Nat) : Int)) = ((4 + G.length + E.length : Nat) : Int) := by rw [e1, wrap64_in _ (by omega)]; omega
  rw [e2]
theorem comments_end (bang : Bool) (l G : List Int) (hG : ∀ x ∈ G, (0 ≤ x ∧ x ≤ 255) ∧ x ≠ 62 ∧ x ≠ 45) (hl : G.length ≤ 1000) (i : Int) (hi : ¬ i < (l.length : Int)) (k : Nat) :
    decanterlaw08_MarkComments.l0 (k + 13) bang ([60, 33, 45, 45] ++ G) l (l.length : Int) i = some true := by
  have hlen : (([60, 33, 45, 45] : List Int) ++ G).length = 4 + G.length := by simp only [List.length_append, List.length_cons, List.length_nil] <;> omega
  have b1 : bytesOf (⟨#[45, 45, 33, 62]⟩ : ByteArray) = [45, 45, 33, 62] := by decide
  have b2 : bytesOf (⟨#[45, 45, 62]⟩ : ByteArray) = [45, 45, 62] := by decide
  have b3 : bytesOf (⟨#[120, 45, 45, 62]⟩ : ByteArray) = [120, 45, 45, 62] := by decide
  rw [show k + 13 = k + 12 + 1 from rfl, decanterlaw08_MarkComments.l0, if_neg hi, b1, b2, b3]
  have r1 := read_comment G [45, 45, 33, 62] hG hl (.inr rfl) k
  have r2 := read_comment G [45, 45, 62] hG hl (.inl rfl) k
  have l1 : (([60, 33, 45, 45] : List Int) ++ G ++ [45, 45, 33, 62]).length < 140737488355328 - 4 := by rw [List.length_append, hlen]; simp only [List.length_cons, List.length_nil] <;> omega
  have l2 : (([60, 33, 45, 45] : List Int) ++ G ++ [45, 45, 62]).length < 140737488355328 - 4 := by rw [List.length_append, hlen]; simp only [List.length_cons, List.length_nil] <;> omega
  cases bang
  · rw [if_neg (by decide), if_pos (show (([60, 33, 45, 45] : List Int) ++ G).length + 3 < 140737488355328 by omega), Option.bind_some, if_pos (by omega), r2, Option.bind_some]
    simp
  · rw [if_pos rfl, if_pos (show (([60, 33, 45, 45] : List Int) ++ G).length + 4 < 140737488355328 by omega), Option.bind_some, if_pos (by omega), r1, Option.bind_some]
    simp
theorem comments_loop (bang : Bool) (l : List Int) (hb : MBytes l) (hl : l.length ≤ 200) : ∀ n k i G, i + n = l.length → n + 20 ≤ k → (∀ x ∈ G, (0 ≤ x ∧ x ≤ 255) ∧ x ≠ 62 ∧ x ≠ 45) → G.length ≤ i →
    decanterlaw08_MarkComments.l0 k bang ([60, 33, 45, 45] ++ G) l (l.length : Int) (i : Int) = some true
  | n, 0, i, G, _, h, _, _ => by omega
  | 0, k + 1, i, G, hi, hk, hG, hg => by
    obtain ⟨k', rfl⟩ : ∃ k', k = k' + 12 := ⟨k - 12, by omega⟩
    exact comments_end bang l G hG (by omega) i (by omega) k'
  | n + 1, k + 1, i, G, hi, hk, hG, hg => by
    have ih := comments_loop bang l hb hl n k (i + 1)
    have e1 : wrap64 ((i : Int) + 1) = ((i + 1 : Nat) : Int) := by rw [wrap64_in _ (by omega)]; omega
    have hlen : (([60, 33, 45, 45] : List Int) ++ G).length = 4 + G.length := by simp only [List.length_append, List.length_cons, List.length_nil] <;> omega
    rw [decanterlaw08_MarkComments.l0, if_pos (by omega), if_pos (by omega), if_pos (by omega), e1]
    have h0 := ih G (by omega) (by omega) hG (by omega)
    by_cases c1 : rd l (i : Int) = 62
    · rw [if_pos c1]; exact h0
    · rw [if_neg c1]
      by_cases c2 : rd l (i : Int) = 45
      · rw [if_pos c2]; exact h0
      · rw [if_neg c2, if_pos (by omega), List.append_assoc]
        refine ih (G ++ [rd l (i : Int)]) (by omega) (by omega) (fun x hx => ?_) (by rw [List.length_append]; simp only [List.length_cons, List.length_nil] <;> omega)
        rcases List.mem_append.1 hx with h | h
        · exact hG x h
        · obtain rfl := List.mem_singleton.1 h
          exact ⟨mrd_byte hb i, c1, c2⟩
theorem MarkComments : decanterlaw08_MarkComments.Pure := by
  intro l bang _ _ hb
  refine ⟨2000, ?_⟩
  unfold decanterlaw08_MarkComments.f
  show (some true : Option Bool).bind _ = _
  rw [Option.bind_some, if_pos rfl]
  by_cases h1 : (l.length : Int) > 200
  · rw [decide_eq_true h1]; rfl
  · rw [decide_eq_false h1, decanterlaw08_MarkComments.j0, if_neg (by decide)]
    have := comments_loop bang l (fun x hx => mbyte_of_wf (hb x hx)) (by omega) l.length 1999 0 [] (by omega) (by omega) (fun x hx => by cases hx) (by simp)
    rw [List.append_nil] at this
    exact this
end Go.Proofs.Ytdppomkilojmlaa.Pure
