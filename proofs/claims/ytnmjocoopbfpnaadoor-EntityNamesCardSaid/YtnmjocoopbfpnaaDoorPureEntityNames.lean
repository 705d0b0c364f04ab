import Derived.Test.YtnmjocoopbfpnaaDoorPEntityNx3
import Derived.Test.YtnmjocoopbfpnaaDoorEntRef
namespace Go.Proofs.YtnmjocoopbfpnaaDoor.Pure
open Go.RowKit Go.Proofs.YtnmjocoopbfpnaaDoor.PEntityN Go.Proofs.YtnmjocoopbfpnaaDoor.EntBaseN Go.Proofs.YtnmjocoopbfpnaaDoor.EntRef Go.Proofs.YtnmjocoopbfpnaaDoorW.PrintWords Go.Proofs.YtnmjocoopbfpnaaDoorW.PrintLast

theorem names_at (m : Nat) (hm : m < 61) : rdOf ByteArray.empty entity_Names.names (m : Int) = entS m := by
  unfold rdOf entity_Names.names
  rw [Int.toNat_natCast, List.getD_eq_getElem?_getD, List.getElem?_map, row_at m hm]
  rfl
theorem less0 : ((List.range 60).all fun m => decanterref04_Less.f 30 (entS m) (entS (m + 1)) == some true) = true := by kernel_rfl
theorem less_at (m : Nat) (hm : m < 60) : ∀ k, 30 ≤ k → decanterref04_Less.f k (entS m) (entS (m + 1)) = some true := by
  intro k hk
  induction k with
  | zero => omega
  | succ k ih =>
    by_cases h : k + 1 = 30
    · rw [h]
      exact eq_of_beq (List.all_eq_true.1 less0 m (List.mem_range.2 hm))
    · exact decanterref04_Less.mono _ _ k _ (ih (by omega))
def cnt : Nat → Nat
  | 0 => 0
  | i + 1 => cnt i + if Al i = true then 2 else 1
theorem cnt_le : ∀ i, cnt i ≤ 2 * i
  | 0 => Nat.le_refl _
  | i + 1 => by
    have := cnt_le i
    rw [cnt]
    split <;> omega
theorem count (x : ByteArray) : ∀ (d i k : Nat), i + d = 43 → decanterlaw04_EntityNames.l0 (k + d + 1) x (cnt i : Int) decanterref04_Table.tab 43 (i : Int) = decanterlaw04_EntityNames.l1 k x entity_Names.names false entity_Names.names 61 0
  | 0, i, k, hd => by
    obtain rfl : i = 43 := by omega
    rw [decanterlaw04_EntityNames.l0, if_neg (by decide)]
    unfold entity_Names.f
    rw [Option.bind_some, if_pos (by kernel_rfl)]
    rfl
  | d + 1, i, k, hd => by
    have htab : (decanterref04_Table.tab.length : Int) = 43 := rfl
    have hal : (rd_T30 decanterref04_Table.tab (i : Int)).f1 = Al i := rfl
    have hw : wrap64 ((i : Int) + 1) = ((i + 1 : Nat) : Int) := by rw [wrap64_id _ (by omega) (by omega)]; rfl
    have hc := cnt_le i
    have ih := count x d (i + 1) k (by omega)
    rw [cnt] at ih
    rw [show k + (d + 1) + 1 = (k + d + 1) + 1 by omega, decanterlaw04_EntityNames.l0, htab, if_pos (by omega), if_pos (by omega), if_pos (by omega), hal, hw]
    rw [wrap64_id ((cnt i : Int) + 1) (by omega) (by omega), wrap64_id ((cnt i : Int) + 1 + 1) (by omega) (by omega)]
    by_cases hA : Al i = true
    · rw [if_pos hA] at ih ⊢
      rw [← ih]
      rfl
    · rw [if_neg hA] at ih ⊢
      rw [← ih]
      rfl
theorem names_loop (x : ByteArray) : ∀ (d i k : Nat) (b : Bool), i + d = 61 → d + 120 ≤ k → (b = true → ∃ m, m < 61 ∧ x.data.toList = K m) → decanterlaw04_EntityNames.l1 k x entity_Names.names b entity_Names.names 61 (i : Int) = some true
  | 0, i, k + 1, b, hd, hk, hb => by
    obtain rfl : i = 61 := by omega
    rw [decanterlaw04_EntityNames.l1, if_neg (by decide), find_eq _ k (by omega), Option.bind_some]
    split
    · rename_i h
      obtain ⟨m, hm, hx⟩ := hb h
      rw [← size_list x, hx, best_name m hm]
      simp
    · rfl
  | d + 1, i, k + 1, b, hd, hk, hb => by
    have hlen : (entity_Names.names.length : Int) = 61 := by kernel_rfl
    have hs := K_size i (by omega)
    have hw : wrap64 ((i : Int) + 1) = ((i + 1 : Nat) : Int) := by rw [wrap64_id _ (by omega) (by omega)]; rfl
    have hR : decanterref04_Find.f k (entS i) = some (((K i).length : Int), ofL (T i)) := by
      rw [ref_find _ k (by omega), entS_size, entS_list, best_name i (by omega)]
    have next : (if b = true then decanterlaw04_EntityNames.l1 k x entity_Names.names true entity_Names.names 61 ((i + 1 : Nat) : Int) else decanterlaw04_EntityNames.l1 k x entity_Names.names ((entS i).toList == x.toList) entity_Names.names 61 ((i + 1 : Nat) : Int)) = some true := by
      split
      · rename_i h
        exact names_loop x d (i + 1) k true (by omega) (by omega) (fun _ => hb h)
      · refine names_loop x d (i + 1) k _ (by omega) (by omega) (fun h => ⟨i, by omega, ?_⟩)
        rw [beq_iff_eq, Lib.toList_data, Lib.toList_data, entS_list] at h
        exact h.symm
    rw [decanterlaw04_EntityNames.l1, hlen, if_pos (by omega), if_pos (by omega), if_pos (by omega), names_at i (by omega), find_name i (by omega) k (by omega), hR, Option.bind_some, Option.bind_some]
    dsimp only
    rw [if_pos (by rw [entS_size]), if_pos rfl, if_pos rfl, if_neg (by omega), hw]
    by_cases h0 : (i : Int) > 0
    · rw [if_pos h0, wrap64_id ((i : Int) - 1) (by omega) (by omega), if_pos (by omega), if_pos (by omega)]
      obtain ⟨j, rfl⟩ : ∃ j, i = j + 1 := ⟨i - 1, by omega⟩
      rw [show ((j + 1 : Nat) : Int) - 1 = (j : Int) by omega, names_at j (by omega), less_at j (by omega) k (by omega), Option.bind_some, if_pos rfl]
      exact next
    · rw [if_neg h0]
      exact next
theorem EntityNames : decanterlaw04_EntityNames.Pure := by
  intro a0 _
  refine ⟨250 + 43 + 1, ?_⟩
  unfold decanterlaw04_EntityNames.f
  rw [ent_speaks _ (by omega), Option.bind_some, if_pos rfl]
  unfold decanterref04_Table.f
  rw [Option.bind_some]
  exact (count a0 43 0 250 rfl).trans (names_loop a0 61 0 250 false rfl (by omega) (fun h => by cases h))
end Go.Proofs.YtnmjocoopbfpnaaDoor.Pure
