import Derived.Test.YtnmjocoopbfpnaaDoorPEntityPx2
import Derived.Test.YtnmjocoopbfpnaaDoorEntBase
namespace Go.Proofs.YtnmjocoopbfpnaaDoor.Pure
open Go.RowKit Go.Proofs.YtnmjocoopbfpnaaDoor.PEntityP Go.Proofs.YtnmjocoopbfpnaaDoor.EntBase Go.Proofs.YtnmjocoopbfpnaaDoorW.PrintWords Go.Proofs.YtnmjocoopbfpnaaDoorW.PrintLast Go.Proofs.YtnmjocoopbfpnaaDoorW.PrintMore

theorem ent_speaks (k : Nat) (hk : 8 < k) : decanterlaw04_speaks.f k = some true := by
  unfold decanterlaw04_speaks.f
  rw [find_eq _ k hk, find_eq _ k hk]
  rw [show best (⟨#[110, 111, 116, 105, 116]⟩ : ByteArray).data.toList (min (⟨#[110, 111, 116, 105, 116]⟩ : ByteArray).size 8) = (3, [194, 172]) by kernel_rfl]
  rw [show best (⟨#[110, 111, 116, 105, 110, 59]⟩ : ByteArray).data.toList (min (⟨#[110, 111, 116, 105, 110, 59]⟩ : ByteArray).size 8) = (6, [226, 136, 137]) by kernel_rfl]
  simp only [Option.bind_some, Lib.toList_data]
  rfl
theorem semi0 : ((List.range 61).all fun m => (K m).getLast? == some 59 || lk (K m ++ [59]) == some (T m)) = true := by kernel_rfl
theorem names_at (m : Nat) (hm : m < 61) : rdOf ByteArray.empty entity_Names.names (m : Int) = entS m := by
  unfold rdOf entity_Names.names
  rw [Int.toNat_natCast, List.getD_eq_getElem?_getD, List.getElem?_map, row_at m hm]
  rfl
theorem entS_size (m : Nat) : (entS m).size = (K m).length := rfl
theorem entS_list (m : Nat) : (entS m).data.toList = K m := rfl
theorem app_list (a b : ByteArray) : (a ++ b).data.toList = a.data.toList ++ b.data.toList := by
  rw [ByteArray.data_append, Array.toList_append]
theorem find_name (m : Nat) (hm : m < 61) (k : Nat) (hk : 8 < k) : entity_Find.f k (entS m) = some (((K m).length : Int), ofL (T m)) := by
  rw [find_eq _ k hk, entS_size, entS_list, best_name m hm]
theorem j1_true (k : Nat) (hk : 8 < k) (m : Nat) (hm : m < 61) (x : ByteArray) (hx : x.size ≤ 100) :
    decanterlaw04_EntityPrefix.j1 (k + 1) x (entS m) (((best (K m ++ x.data.toList) (min ((K m).length + x.size) 8)).1 : Nat) : Int) (ofL (best (K m ++ x.data.toList) (min ((K m).length + x.size) 8)).2) ((K m).length : Int) (ofL (T m)) false = some true := by
  have hs := K_size m hm
  rw [decanterlaw04_EntityPrefix.j1, if_neg (by decide)]
  generalize hb : best (K m ++ x.data.toList) (min ((K m).length + x.size) 8) = b
  have hle : b.1 ≤ min ((K m).length + x.size) 8 := by rw [← hb]; exact best_le _ _
  by_cases h1 : (b.1 : Int) > ((K m).length : Int)
  · rw [if_pos h1, if_pos (by rw [entS_size]; omega), if_pos (by omega), if_pos (by rw [ByteArray.size_append, entS_size]; omega)]
    have hlong : ((entS m ++ x).extract 0 ((b.1 : Nat) : Int).toNat).data.toList = (K m ++ x.data.toList).take b.1 := by
      rw [Int.toNat_natCast, extract_take, app_list, entS_list]
    have hlen : ((entS m ++ x).extract 0 ((b.1 : Nat) : Int).toNat).size = b.1 := by
      rw [Int.toNat_natCast, ByteArray.size_extract, ByteArray.size_append, entS_size]
      omega
    have hlk : lk ((K m ++ x.data.toList).take b.1) = some b.2 := by
      have := best_is (K m ++ x.data.toList) (min ((K m).length + x.size) 8) (by rw [hb]; omega)
      rwa [hb] at this
    rw [find_eq _ k hk, hlong, hlen, Nat.min_eq_left (by omega), best_of _ b.2 b.1 b.1 (Nat.le_refl _) (by rw [List.take_take, Nat.min_self]; exact hlk) (fun i _ _ => by omega) (by omega), Option.bind_some]
    dsimp only
    rw [if_pos rfl]
    simp
  · rw [if_neg h1, if_pos (by rw [entS_size]; omega)]
    have hsemi := List.all_eq_true.1 semi0 m (List.mem_range.2 hm)
    rw [find_eq _ k hk, Option.bind_some, entS_size, wrap64_id _ (by omega) (by omega), if_pos (by omega), if_pos (by omega)]
    by_cases hl : (K m).getLast? = some 59
    · have : bt (entS m) (((K m).length : Int) - 1) = 59 := by
        unfold bt
        have h2 : (((K m).length : Int) - 1).toNat = (K m).length - 1 := by omega
        rw [h2, dif_pos (by rw [entS_size]; omega)]
        rw [List.getLast?_eq_getElem?] at hl
        have h3 : (entS m)[(K m).length - 1]'(by rw [entS_size]; omega) = (K m)[(K m).length - 1]'(by omega) := rfl
        rw [h3]
        rw [List.getElem?_eq_getElem (by omega)] at hl
        rw [Option.some.inj hl]
        rfl
      rw [if_pos this]
    · have hlk : lk (K m ++ [59]) = some (T m) := by
        rw [Bool.or_eq_true, beq_iff_eq, beq_iff_eq] at hsemi
        exact hsemi.resolve_left hl
      obtain ⟨j, hj, hKj, hTj⟩ := lk_some _ _ hlk
      have hj8 := K_size j hj
      rw [← hKj, List.length_append, List.length_singleton] at hj8
      have hL : (entS m ++ (⟨#[59]⟩ : ByteArray)).data.toList = K m ++ [59] := by rw [app_list]; rfl
      have hS : (entS m ++ (⟨#[59]⟩ : ByteArray)).size = (K m).length + 1 := by rw [ByteArray.size_append]; rfl
      rw [hL, hS, Nat.min_eq_left (by omega), best_of _ (T m) ((K m).length + 1) ((K m).length + 1) (Nat.le_refl _) (by
        rw [List.take_of_length_le (by rw [List.length_append]; exact Nat.le_refl _)]
        exact hlk) (fun i _ _ => by omega) (by omega)]
      dsimp only
      split
      · rfl
      · rw [wrap64_id _ (by omega) (by omega), if_pos (by omega)]
        simp
theorem EntityPrefix : decanterlaw04_EntityPrefix.Pure := by
  intro a0 a1 h0 _
  refine ⟨11, ?_⟩
  unfold decanterlaw04_EntityPrefix.f
  rw [ent_speaks 11 (by omega), Option.bind_some, if_pos rfl, decanterlaw04_EntityPrefix.j0]
  by_cases h1 : (a1.size : Int) > 100
  · rw [decide_eq_true h1, if_pos rfl, ent_speaks 10 (by omega)]
    rfl
  · rw [decide_eq_false h1, if_neg (by decide)]
    have hw : 0 ≤ a0 ∧ a0 ≤ 65535 := by
      simp [Lit.wf, IntKind.min, IntKind.max, IntKind.signed, IntKind.bits] at h0
      omega
    unfold entity_Names.f
    rw [Option.bind_some]
    have hlen : (entity_Names.names.length : Int) = 61 := rfl
    rw [hlen, wrap64_id _ (by omega) (by omega), if_neg (by decide)]
    obtain ⟨m, hm, hm61⟩ : ∃ m : Nat, Int.tmod a0 61 = (m : Int) ∧ m < 61 := by
      have e : Int.tmod a0 61 = a0 % 61 := Int.tmod_eq_emod_of_nonneg hw.1
      exact ⟨(Int.tmod a0 61).toNat, by omega, by omega⟩
    have hs := K_size m hm61
    rw [hm, if_pos (by omega), if_pos (by omega), names_at m hm61, if_pos (by rw [entS_size]; omega), find_eq _ 10 (by omega), find_name m hm61 10 (by omega), Option.bind_some, Option.bind_some]
    have hL : (entS m ++ a1).data.toList = K m ++ a1.data.toList := by rw [app_list]; rfl
    have hS : (entS m ++ a1).size = (K m).length + a1.size := by rw [ByteArray.size_append]; rfl
    rw [hL, hS]
    dsimp only
    have hge : (K m).length ≤ (best (K m ++ a1.data.toList) (min ((K m).length + a1.size) 8)).1 := by
      refine best_ge _ (T m) _ _ (by omega) ?_
      rw [List.take_left']
      · exact lk_name m hm61
      · rfl
    rw [if_neg (by rw [entS_size]; omega), if_pos (by rw [entS_size])]
    have hj1 := j1_true 9 (by omega) m hm61 a1 (by omega)
    split
    · rename_i heq
      have h3 := best_is (K m ++ a1.data.toList) (min ((K m).length + a1.size) 8) (by omega)
      have e3 : (best (K m ++ a1.data.toList) (min ((K m).length + a1.size) 8)).1 = (K m).length := by omega
      rw [e3, List.take_left' rfl, lk_name m hm61] at h3
      have h4 := Option.some.inj h3
      rw [← h4] at hj1 ⊢
      rw [show ((ofL (T m)).toList != (ofL (T m)).toList) = false by simp]
      exact hj1
    · exact hj1
end Go.Proofs.YtnmjocoopbfpnaaDoor.Pure
