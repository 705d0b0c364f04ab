import Derived.Test.YtnmjocoopbfpnaaDoorPRefAx5
import Derived.Test.YtnmjocoopbfpnaaDoorEntBaseR
namespace Go.Proofs.YtnmjocoopbfpnaaDoor.EntRefR
open Go.RowKit Go.Proofs.YtnmjocoopbfpnaaDoor.PRefA Go.Proofs.YtnmjocoopbfpnaaDoor.EntBaseR Go.Proofs.YtnmjocoopbfpnaaDoorW.PrintWords Go.Proofs.YtnmjocoopbfpnaaDoorW.PrintLast Go.Proofs.YtnmjocoopbfpnaaDoorW.PrintMore

theorem entS_size (m : Nat) : (entS m).size = (K m).length := rfl
theorem entS_list (m : Nat) : (entS m).data.toList = K m := rfl
theorem app_list (a b : ByteArray) : (a ++ b).data.toList = a.data.toList ++ b.data.toList := by
  rw [ByteArray.data_append, Array.toList_append]
theorem find_name (m : Nat) (hm : m < 61) (k : Nat) (hk : 8 < k) : entity_Find.f k (entS m) = some (((K m).length : Int), ofL (T m)) := by
  rw [find_eq _ k hk, entS_size, entS_list, best_name m hm]
theorem size_list (b : ByteArray) : b.data.toList.length = b.size := rfl
theorem begins_eq (a b : ByteArray) : decanterref04_Begins.f a b = some (b.data.toList.isPrefixOf a.data.toList) := by
  have hb := size_list b
  have ha := size_list a
  unfold decanterref04_Begins.f
  by_cases h : (a.size : Int) ≥ (b.size : Int)
  · rw [if_pos h, if_pos (by omega), if_pos (by omega), Int.toNat_natCast, Lib.toList_data, Lib.toList_data, extract_take]
    congr 1
    rw [Bool.eq_iff_iff, beq_iff_eq, List.isPrefixOf_iff_prefix, List.prefix_iff_eq_take, hb]
    exact eq_comm
  · rw [if_neg h]
    congr 1
    symm
    rw [Bool.eq_false_iff]
    intro hp
    have := (List.isPrefixOf_iff_prefix.1 hp).length_le
    omega
/-- The document's rows: a name, whether it stands alone, what it stands for. -/
def row (j : Nat) : S30 := rd_T30 decanterref04_Table.tab (j : Int)
def Nm (j : Nat) : List UInt8 := (row j).f0.data.toList
def Al (j : Nat) : Bool := (row j).f1
def C (j : Nat) : List UInt8 := ((decanterref04_Text.f 10 (row j).f2).getD ⟨#[]⟩).data.toList
theorem ref_row0 : ((List.range 43).all fun j => decide ((Nm j).length ≤ 7) && (decanterref04_Text.f 10 (row j).f2).isSome && lk (Nm j ++ [59]) == some (C j) && (!Al j || lk (Nm j) == some (C j))) = true := by kernel_rfl
theorem ref_row (j : Nat) (hj : j < 43) : (Nm j).length ≤ 7 ∧ decanterref04_Text.f 10 (row j).f2 = some (ofL (C j)) ∧ lk (Nm j ++ [59]) = some (C j) ∧ (Al j = true → lk (Nm j) = some (C j)) := by
  have h := List.all_eq_true.1 ref_row0 j (List.mem_range.2 hj)
  simp only [Bool.and_eq_true, decide_eq_true_eq, beq_iff_eq, Bool.or_eq_true, Bool.not_eq_true'] at h
  obtain ⟨⟨⟨h1, h2⟩, h3⟩, h4⟩ := h
  refine ⟨h1, ?_, h3, fun ha => h4.resolve_left (by rw [ha]; decide)⟩
  unfold C ofL
  obtain ⟨v, hv⟩ := Option.isSome_iff_exists.1 h2
  rw [hv]
  rfl
theorem text_at (j : Nat) (hj : j < 43) : ∀ k, 10 ≤ k → decanterref04_Text.f k (row j).f2 = some (ofL (C j)) := by
  intro k hk
  induction k with
  | zero => omega
  | succ k ih =>
    by_cases h : k + 1 = 10
    · rw [h]; exact (ref_row j hj).2.1
    · exact decanterref04_Text.mono _ k _ (ih (by omega))
theorem ref_of0 : ((List.range 61).all fun m => (List.range 43).any fun j => K m == Nm j ++ [59] || (Al j && K m == Nm j)) = true := by kernel_rfl
theorem ref_of (m : Nat) (hm : m < 61) : ∃ j, j < 43 ∧ (K m = Nm j ++ [59] ∨ Al j = true ∧ K m = Nm j) := by
  have h := List.all_eq_true.1 ref_of0 m (List.mem_range.2 hm)
  obtain ⟨j, hj, h⟩ := List.any_eq_true.1 h
  rw [Bool.or_eq_true, Bool.and_eq_true, beq_iff_eq, beq_iff_eq] at h
  exact ⟨j, List.mem_range.1 hj, h⟩
/-- What the document's loop knows of a text behind so many rows. -/
def Inv (s : List UInt8) (i n : Nat) (t : List UInt8) : Prop :=
  (n = 0 ∧ t = [] ∨ 0 < n ∧ n ≤ s.length ∧ lk (s.take n) = some t) ∧ ∀ j, j < i → ((Nm j ++ [59]) <+: s → (Nm j).length + 1 ≤ n) ∧ (Al j = true → Nm j <+: s → (Nm j).length ≤ n)
theorem best_none (l : List UInt8) : ∀ n, (∀ i, 0 < i → i ≤ n → lk (l.take i) = none) → best l n = (0, [])
  | 0, _ => rfl
  | n + 1, h => by
    rw [best, h (n + 1) (by omega) (Nat.le_refl _)]
    exact best_none l n fun i h1 h2 => h i h1 (by omega)
theorem inv_end (s : List UInt8) (n : Nat) (t : List UInt8) (h : Inv s 43 n t) : best s (min s.length 8) = (n, t) := by
  have hno : ∀ i, n < i → i ≤ min s.length 8 → lk (s.take i) = none := by
    intro i h1 h2
    cases hl : lk (s.take i) with
    | none => rfl
    | some t' =>
      obtain ⟨m, hm, hK, _⟩ := lk_some _ _ hl
      obtain ⟨j, hj, hd⟩ := ref_of m hm
      have hp : K m <+: s := by rw [← hK]; exact List.take_prefix _ _
      have hlen : (K m).length = i := by rw [← hK, List.length_take]; omega
      have hI := h.2 j hj
      rcases hd with hd | ⟨ha, hd⟩
      · rw [hd] at hp hlen
        rw [List.length_append, List.length_singleton] at hlen
        have := hI.1 hp
        omega
      · rw [hd] at hp hlen
        have := hI.2 ha hp
        omega
  rcases h.1 with ⟨rfl, rfl⟩ | ⟨h0, hn, hl⟩
  · exact best_none s _ fun i h1 h2 => hno i h1 h2
  · obtain ⟨m, hm, hK, _⟩ := lk_some _ _ hl
    have hs := K_size m hm
    have hlen : (s.take n).length = (K m).length := by rw [hK]
    rw [List.length_take] at hlen
    exact best_of s t _ n (by omega) hl hno h0
theorem pre_take {a s : List UInt8} (h : a <+: s) : s.take a.length = a := (List.prefix_iff_eq_take.1 h).symm
theorem ref_loop (s : ByteArray) : ∀ (d i k n : Nat) (t : List UInt8), i + d = 43 → 2 * d + 20 ≤ k → n ≤ 8 → Inv s.data.toList i n t → decanterref04_Find.l0 k s (n : Int) (ofL t) decanterref04_Table.tab (i : Int) = some (((best s.data.toList (min s.size 8)).1 : Int), ofL (best s.data.toList (min s.size 8)).2)
  | 0, i, k + 1, n, t, hd, hk, _, hI => by
    obtain rfl : i = 43 := by omega
    rw [decanterref04_Find.l0, if_neg (by decide), ← size_list s, inv_end _ n t hI]
  | d + 1, i, k + 2, n, t, hd, hk, hn8, hI => by
    obtain ⟨h7, -, hsemi, halone⟩ := ref_row i (by omega)
    have htab : (decanterref04_Table.tab.length : Int) = 43 := rfl
    have hsz : ((row i).f0.size) = (Nm i).length := rfl
    have hr : rd_T30 decanterref04_Table.tab (i : Int) = row i := rfl
    have hal : (row i).f1 = Al i := rfl
    have hL : ((row i).f0 ++ (⟨#[59]⟩ : ByteArray)).data.toList = Nm i ++ [59] := by rw [app_list]; rfl
    have hN : (row i).f0.data.toList = Nm i := rfl
    have hw : wrap64 ((i : Int) + 1) = ((i + 1 : Nat) : Int) := by rw [wrap64_id _ (by omega) (by omega)]; rfl
    have hw2 : wrap64 (((Nm i).length : Int) + 1) = (((Nm i).length + 1 : Nat) : Int) := by rw [wrap64_id _ (by omega) (by omega)]; rfl
    have keep : ∀ n' t', n ≤ n' → n' ≤ 8 → (n' = 0 ∧ t' = [] ∨ 0 < n' ∧ n' ≤ s.data.toList.length ∧ lk (s.data.toList.take n') = some t') → ((Nm i ++ [59]) <+: s.data.toList → (Nm i).length + 1 ≤ n') → (Al i = true → Nm i <+: s.data.toList → (Nm i).length ≤ n') → decanterref04_Find.l0 k s (n' : Int) (ofL t') decanterref04_Table.tab ((i + 1 : Nat) : Int) = some (((best s.data.toList (min s.size 8)).1 : Int), ofL (best s.data.toList (min s.size 8)).2) := by
      intro n' t' h1 h8 h2 h3 h4
      refine ref_loop s d (i + 1) k n' t' (by omega) (by omega) h8 ⟨h2, fun j hj => ?_⟩
      by_cases e : j = i
      · subst e; exact ⟨h3, h4⟩
      · have := hI.2 j (by omega)
        exact ⟨fun p => Nat.le_trans (this.1 p) h1, fun a p => Nat.le_trans (this.2 a p) h1⟩
    rw [decanterref04_Find.l0, htab, if_pos (by omega), if_pos (by omega), hr, hsz, if_pos (by omega), begins_eq, hL, Option.bind_some, hw2]
    by_cases hA : (Nm i ++ [59]).isPrefixOf s.data.toList = true ∧ n < (Nm i).length + 1
    · obtain ⟨hA1, hA2⟩ := hA
      have hp := List.isPrefixOf_iff_prefix.1 hA1
      have ht := pre_take hp
      have hle := hp.length_le
      rw [List.length_append, List.length_singleton] at ht hle
      rw [if_pos hA1, decanterref04_Find.j1, decide_eq_true (by omega), if_pos rfl, htab, if_pos (by omega), if_pos (by omega), hr, text_at i (by omega) k (by omega), Option.bind_some, hsz, hw2, hw]
      refine keep _ _ (by omega) (by omega) (Or.inr ⟨by omega, hle, ?_⟩) (fun _ => Nat.le_refl _) (fun _ _ => by omega)
      rw [ht]; exact hsemi
    · have hA' : (Nm i ++ [59]) <+: s.data.toList → (Nm i).length + 1 ≤ n := fun hp => by
        have := List.isPrefixOf_iff_prefix.2 hp
        by_cases q : n < (Nm i).length + 1
        · exact absurd ⟨this, q⟩ hA
        · omega
      have hj : decanterref04_Find.j1 (k + 1) s (n : Int) (ofL t) decanterref04_Table.tab (i : Int) false = some (((best s.data.toList (min s.size 8)).1 : Int), ofL (best s.data.toList (min s.size 8)).2) := by
        rw [decanterref04_Find.j1, if_neg (by decide), htab, if_pos (by omega), if_pos (by omega), hr, hal, hsz, begins_eq, hN, hw, Option.bind_some]
        by_cases hB : Al i = true
        · rw [if_pos hB]
          by_cases hP : (Nm i).isPrefixOf s.data.toList = true
          · have hp := List.isPrefixOf_iff_prefix.1 hP
            have ht := pre_take hp
            have hle := hp.length_le
            rw [if_pos hP]
            by_cases hG : ((Nm i).length : Int) > (n : Int)
            · rw [if_pos hG, text_at i (by omega) k (by omega), Option.bind_some]
              refine keep _ _ (by omega) (by omega) (Or.inr ⟨by omega, hle, ?_⟩) (fun h => Nat.le_trans (hA' h) (by omega)) (fun _ _ => Nat.le_refl _)
              rw [ht]; exact halone hB
            · rw [if_neg hG]
              exact keep _ _ (Nat.le_refl _) hn8 hI.1 hA' (fun _ _ => by omega)
          · rw [if_neg hP]
            exact keep _ _ (Nat.le_refl _) hn8 hI.1 hA' (fun _ p => absurd (List.isPrefixOf_iff_prefix.2 p) hP)
        · rw [if_neg hB]
          exact keep _ _ (Nat.le_refl _) hn8 hI.1 hA' (fun a _ => absurd a hB)
      by_cases hS : (Nm i ++ [59]).isPrefixOf s.data.toList = true
      · rw [if_pos hS, decide_eq_false (by
          intro q
          exact hA ⟨hS, by omega⟩)]
        exact hj
      · rw [if_neg hS]
        exact hj
theorem ref_find (s : ByteArray) (k : Nat) (hk : 106 ≤ k) : decanterref04_Find.f k s = some (((best s.data.toList (min s.size 8)).1 : Int), ofL (best s.data.toList (min s.size 8)).2) := by
  unfold decanterref04_Find.f decanterref04_Table.f
  rw [Option.bind_some]
  exact ref_loop s 43 0 k 0 [] rfl (by omega) (by omega) ⟨Or.inl ⟨rfl, rfl⟩, fun j hj => absurd hj (by omega)⟩
end Go.Proofs.YtnmjocoopbfpnaaDoor.EntRefR
