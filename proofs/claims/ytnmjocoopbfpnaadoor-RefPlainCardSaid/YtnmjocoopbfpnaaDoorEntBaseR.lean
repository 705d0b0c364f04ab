import Derived.Test.YtnmjocoopbfpnaaDoorPRefAx2
import Derived.Lib.Strings
import Derived.IntWalk
namespace Go.Proofs.YtnmjocoopbfpnaaDoor.EntBaseR
open Go.RowKit Go.Proofs.YtnmjocoopbfpnaaDoor.PRefA Go.Proofs.YtnmjocoopbfpnaaDoorW.PrintWords Go.Proofs.YtnmjocoopbfpnaaDoorW.PrintLast Go.Proofs.YtnmjocoopbfpnaaDoorW.PrintMore

/-- The name at a place of the table, and what it stands for. -/
def K (m : Nat) : List UInt8 := (entTab.getD m ([], [])).1
def T (m : Nat) : List UInt8 := (entTab.getD m ([], [])).2
theorem entS_eq (m : Nat) : entS m = ⟨(K m).toArray⟩ := rfl
theorem entT_eq (m : Nat) : entT m = ⟨(T m).toArray⟩ := rfl
theorem less_eq (t : Nat) (x : ByteArray) : entity_get.less t x = decide (K t < x.data.toList) := by
  unfold entity_get.less
  rw [bytesLess_eq, Lib.toList_data, Lib.toList_data]
  rfl
theorem sorted0 : ((List.range 61).all fun i => (List.range 61).all fun j => decide (i < j) == decide (K i < K j)) = true := by kernel_rfl
theorem sorted_iff (i j : Nat) (hi : i < 61) (hj : j < 61) : K i < K j ↔ i < j := by
  have h := List.all_eq_true.1 (List.all_eq_true.1 sorted0 i (List.mem_range.2 hi)) j (List.mem_range.2 hj)
  rw [beq_iff_eq, decide_eq_decide] at h
  exact h.symm
theorem K_inj (i j : Nat) (hi : i < 61) (hj : j < 61) (h : K i = K j) : i = j := by
  have h1 := sorted_iff i j hi hj
  have h2 := sorted_iff j i hj hi
  rw [h] at h1 h2
  have h3 : ¬ K j < K j := List.lt_irrefl _
  rcases Nat.lt_trichotomy i j with q | q | q
  · exact absurd (h1.2 q) h3
  · exact q
  · exact absurd (h2.2 q) h3
theorem bs_spec (x : ByteArray) (k : Nat) : ∀ (f lo hi : Nat), hi - lo ≤ f → lo ≤ k → k ≤ hi → (∀ t, lo ≤ t → t < k → entity_get.less t x = true) → (∀ t, k ≤ t → t < hi → entity_get.less t x = false) → entity_get.bs x f lo hi = k
  | 0, lo, hi, hf, a, b, _, _ => by simp [entity_get.bs]; omega
  | f + 1, lo, hi, hf, a, b, h1, h2 => by
    unfold entity_get.bs
    by_cases h : lo < hi
    · rw [if_pos h]
      by_cases hm : (lo + hi) / 2 < k
      · rw [h1 _ (by omega) hm, if_pos rfl]
        exact bs_spec x k f _ _ (by omega) (by omega) b (fun t ht => h1 t (by omega)) h2
      · rw [h2 _ (by omega) (by omega), if_neg (by decide)]
        exact bs_spec x k f _ _ (by omega) a (by omega) h1 (fun t ht hh => h2 t ht (by omega))
    · rw [if_neg h]; omega
theorem at_name (m : Nat) (hm : m < 61) (x : ByteArray) (hx : x.data.toList = K m) : entity_get.at_ x = m := by
  refine bs_spec x m 61 0 61 (by omega) (by omega) (by omega) (fun t _ ht => ?_) (fun t ht h61 => ?_)
  · rw [less_eq, hx]
    exact decide_eq_true ((sorted_iff t m (by omega) hm).2 ht)
  · rw [less_eq, hx]
    exact decide_eq_false fun h => by have := (sorted_iff t m h61 hm).1 h; omega
/-- What a text stands for. -/
def lk (l : List UInt8) : Option (List UInt8) := (entTab.find? (·.1 == l)).map (·.2)
theorem row_at (m : Nat) (hm : m < 61) : entTab[m]? = some (K m, T m) := by
  have : m < entTab.length := hm
  unfold K T
  rw [List.getD_eq_getElem?_getD, List.getElem?_eq_getElem this]
  rfl
theorem lk_name (m : Nat) (hm : m < 61) : lk (K m) = some (T m) := by
  unfold lk
  cases h : entTab.find? (·.1 == K m) with
  | none =>
    rw [List.find?_eq_none] at h
    exact absurd (by simp) (h (K m, T m) (List.mem_of_getElem? (row_at m hm)))
  | some e =>
    have h1 := List.find?_some h
    obtain ⟨j, hj, he⟩ := List.getElem_of_mem (List.mem_of_find?_eq_some h)
    have hj61 : j < 61 := hj
    have h2 := row_at j hj61
    rw [List.getElem?_eq_getElem hj, he] at h2
    obtain rfl := Option.some.inj h2
    have h3 : K j = K m := by simpa using h1
    have := K_inj j m hj61 hm h3
    subst this
    rfl
theorem lk_some (l t : List UInt8) (h : lk l = some t) : ∃ m, m < 61 ∧ l = K m ∧ t = T m := by
  unfold lk at h
  obtain ⟨e, he, rfl⟩ := Option.map_eq_some_iff.1 h
  have h1 := List.find?_some he
  obtain ⟨j, hj, hje⟩ := List.getElem_of_mem (List.mem_of_find?_eq_some he)
  have h2 := row_at j hj
  rw [List.getElem?_eq_getElem hj, hje] at h2
  obtain rfl := Option.some.inj h2
  have h3 : K j = l := by simpa using h1
  exact ⟨j, hj, h3.symm, rfl⟩
def ofL (l : List UInt8) : ByteArray := ⟨l.toArray⟩
def getL (l : List UInt8) : ByteArray × Bool := match lk l with
  | some t => (ofL t, true)
  | none => (⟨#[]⟩, false)
theorem get_eq (x : ByteArray) : entity_get.f x = some (getL x.data.toList) := by
  unfold entity_get.f getL
  cases h : lk x.data.toList with
  | some t =>
    obtain ⟨m, hm, hx, rfl⟩ := lk_some _ _ h
    have ha := at_name m hm x hx
    have hi : entity_get.is x = true := by
      unfold entity_get.is
      rw [ha, decide_eq_true hm, Lib.toList_data, Lib.toList_data, hx]
      show (true && (K m == K m)) = true
      simp
    rw [hi, if_pos rfl, ha]
    rfl
  | none =>
    have hi : entity_get.is x = false := by
      cases hi : entity_get.is x with
      | false => rfl
      | true =>
        unfold entity_get.is at hi
        rw [Bool.and_eq_true] at hi
        have h1 := of_decide_eq_true hi.1
        have h2 : K (entity_get.at_ x) = x.data.toList := by
          have := hi.2
          rw [Lib.toList_data, Lib.toList_data] at this
          exact eq_of_beq this
        rw [← h2, lk_name _ h1] at h
        cases h
    rw [hi]
    rfl
/-- The longest name with which a text begins, of at most n bytes. -/
def best (l : List UInt8) : Nat → Nat × List UInt8
  | 0 => (0, [])
  | n + 1 => match lk (l.take (n + 1)) with
    | some t => (n + 1, t)
    | none => best l n
theorem wrap64_id (a : Int) (h1 : -9223372036854775808 ≤ a) (h2 : a ≤ 9223372036854775807) : wrap64 a = a := Go.IntWalk.wrap64_in a ⟨h1, h2⟩
theorem extract_take (s : ByteArray) (n : Nat) : (s.extract 0 n).data.toList = s.data.toList.take n := by
  rw [Lib.extract_data]
  simp
theorem find_l0 (s : ByteArray) : ∀ (n k : Nat), n < k → n ≤ s.size → n ≤ 8 → entity_Find.l0 k s (n : Int) = some (((best s.data.toList n).1 : Int), ofL (best s.data.toList n).2)
  | 0, k + 1, _, _, _ => by
    rw [entity_Find.l0]
    rfl
  | n + 1, k + 1, hk, hn, h8 => by
    rw [entity_Find.l0, if_pos (show ((n + 1 : Nat) : Int) > 0 by omega), if_pos (show (0 : Int) ≤ ((n + 1 : Nat) : Int) by omega), if_pos (show ((n + 1 : Nat) : Int) ≤ (s.size : Int) by omega), get_eq, Option.bind_some, Int.toNat_natCast, extract_take]
    unfold getL
    rw [best]
    cases h : lk (s.data.toList.take (n + 1)) with
    | some t => rfl
    | none =>
      show (if false = true then _ else entity_Find.l0 k s (wrap64 (((n + 1 : Nat) : Int) - 1))) = _
      rw [if_neg (by decide), wrap64_id _ (by omega) (by omega), show ((n + 1 : Nat) : Int) - 1 = (n : Int) by omega]
      exact find_l0 s n k (by omega) (by omega) (by omega)
theorem find_eq (s : ByteArray) (k : Nat) (hk : 8 < k) : entity_Find.f k s = some (((best s.data.toList (min s.size 8)).1 : Int), ofL (best s.data.toList (min s.size 8)).2) := by
  unfold entity_Find.f
  have e : mn (s.size : Int) 8 = ((min s.size 8 : Nat) : Int) := by
    unfold mn
    split <;> omega
  rw [e]
  exact find_l0 s (min s.size 8) k (by omega) (by omega) (by omega)
theorem best_le (l : List UInt8) : ∀ n, (best l n).1 ≤ n
  | 0 => Nat.le_refl _
  | n + 1 => by
    rw [best]
    split
    · exact Nat.le_refl _
    · exact Nat.le_succ_of_le (best_le l n)
/-- Of all lengths at which a name ends, the greatest. -/
theorem best_of (l : List UInt8) (t : List UInt8) : ∀ n j, j ≤ n → lk (l.take j) = some t → (∀ i, j < i → i ≤ n → lk (l.take i) = none) → 0 < j → best l n = (j, t)
  | 0, j, h, _, _, h0 => by omega
  | n + 1, j, h, hj, hn, h0 => by
    rw [best]
    by_cases e : j = n + 1
    · subst e
      rw [hj]
    · rw [hn (n + 1) (by omega) (Nat.le_refl _)]
      exact best_of l t n j (by omega) hj (fun i h1 h2 => hn i h1 (by omega)) h0
theorem best_is (l : List UInt8) : ∀ n, 0 < (best l n).1 → lk (l.take (best l n).1) = some (best l n).2
  | 0, h => absurd h (Nat.lt_irrefl 0)
  | n + 1, h => by
    rw [best] at h ⊢
    split
    · rename_i t ht
      exact ht
    · rename_i ht
      rw [ht] at h
      exact best_is l n h
theorem best_ge (l : List UInt8) (t : List UInt8) : ∀ n j, j ≤ n → lk (l.take j) = some t → j ≤ (best l n).1
  | 0, j, h, _ => by omega
  | n + 1, j, h, hj => by
    rw [best]
    split
    · exact h
    · rename_i hn
      by_cases e : j = n + 1
      · subst e
        rw [hn] at hj
        cases hj
      · exact best_ge l t n j (by omega) hj
theorem sizes0 : ((List.range 61).all fun m => decide (2 ≤ (K m).length) && decide ((K m).length ≤ 8)) = true := by kernel_rfl
theorem K_size (m : Nat) (hm : m < 61) : 2 ≤ (K m).length ∧ (K m).length ≤ 8 := by
  have h := List.all_eq_true.1 sizes0 m (List.mem_range.2 hm)
  rw [Bool.and_eq_true, decide_eq_true_eq, decide_eq_true_eq] at h
  exact h
theorem best_name (m : Nat) (hm : m < 61) : best (K m) (min (K m).length 8) = ((K m).length, T m) := by
  have h := K_size m hm
  rw [Nat.min_eq_left h.2]
  refine best_of _ _ _ _ (Nat.le_refl _) ?_ (fun i h1 h2 => by omega) (by omega)
  rw [List.take_length]
  exact lk_name m hm
end Go.Proofs.YtnmjocoopbfpnaaDoor.EntBaseR
