import Derived.Test.YtinjbabmpnljoaaDoorPClassTx3
import Derived.Test.YtinjbabmpnljoaaDoorTexts
namespace Go.Proofs.YtinjbabmpnljoaaDoor.Pure
open Go.RowKit Go.Proofs.YtinjbabmpnljoaaDoor.PClassT Go.Proofs.YtinjbabmpnljoaaDoorW.PrintWords Go.Proofs.YtinjbabmpnljoaaDoorW.PrintLast

theorem low_low (b : UInt8) : class_Small.lowB (class_Small.lowB b) = class_Small.lowB b := by
  have : ∀ n : Fin 256, class_Small.lowB (class_Small.lowB (UInt8.ofNat n.val)) = class_Small.lowB (UInt8.ofNat n.val) := by decide +kernel
  have := this ⟨b.toNat, b.toNat_lt⟩
  rwa [UInt8.ofNat_toNat] at this
theorem small_size (s : ByteArray) : (class_Small.smallBytes s).size = s.size := by
  rw [← size_list, ← size_list, small_list, List.length_map]
theorem toList_eq {u v : ByteArray} (h : u.data.toList = v.data.toList) : u.toList = v.toList := by rw [Lib.toList_data, Lib.toList_data, h]
theorem app_list (u v : ByteArray) : (u ++ v).data.toList = u.data.toList ++ v.data.toList := by
  rw [ByteArray.data_append, Array.toList_append]
theorem name_all {s : ByteArray} (h : nameB s = true) : 0 < s.size ∧ okAll 0 s.data.toList = true := by
  unfold nameB at h
  rw [Bool.and_eq_true, decide_eq_true_eq] at h
  exact h
theorem laws_j2 (s t : ByteArray) (hs : s.size ≤ 300) (ht : t.size ≤ 300) (k : Nat) : decanterlaw03_ClassLaws.j2 (k + 1) s t false = some true := by
  rw [decanterlaw03_ClassLaws.j2, if_neg (by decide), name_f s (by omega), Option.bind_some]
  by_cases h1 : nameB s = true
  · rw [if_pos h1, name_f t (by omega), Option.bind_some]
    by_cases h2 : nameB t = true
    · obtain ⟨a1, a2⟩ := name_all h1
      obtain ⟨b1, b2⟩ := name_all h2
      have c1 : nameB (s ++ t) = true := by
        unfold nameB
        rw [Bool.and_eq_true, decide_eq_true_eq, ByteArray.size_append, app_list, all_append, a2, Bool.true_and]
        exact ⟨by omega, all_later _ 0 _ (.inl rfl) b2⟩
      have c2 : nameB ((s ++ (⟨#[45]⟩ : ByteArray)) ++ t) = true := by
        unfold nameB
        rw [Bool.and_eq_true, decide_eq_true_eq, ByteArray.size_append, ByteArray.size_append, app_list, app_list, all_append, all_append, a2, Bool.true_and, all_later _ 0 _ (.inl rfl) b2, Bool.and_true]
        refine ⟨by omega, ?_⟩
        show (class_Name.okAt (0 + s.data.toList.length) 45 && true) = true
        rw [Bool.and_true]
        exact class_Name.ok_yes _ _ 45 rfl (.inr ⟨by rw [size_list]; omega, .inr rfl⟩)
      have e1 : (⟨#[45]⟩ : ByteArray).size = 1 := rfl
      rw [if_pos h2, if_pos (by omega), name_f _ (by rw [ByteArray.size_append]; omega), Option.bind_some, if_pos c1, if_pos (by omega), if_pos (by rw [ByteArray.size_append, e1]; omega), name_f _ (by rw [ByteArray.size_append, ByteArray.size_append, e1]; omega), Option.bind_some, c2]
    · rw [if_neg h2]
  · rw [if_neg h1]
theorem laws_j1 (s t : ByteArray) (hs : s.size ≤ 300) (ht : t.size ≤ 300) (k : Nat) : decanterlaw03_ClassLaws.j1 (k + 2) s t (class_Small.smallBytes s) (trimB s) false = some true := by
  rw [show k + 2 = k + 1 + 1 from rfl, decanterlaw03_ClassLaws.j1, if_neg (by decide), name_f s (by omega), Option.bind_some]
  by_cases h1 : nameB s = true
  · obtain ⟨_, a2⟩ := name_all h1
    have hp := all_plain _ 0 a2
    have e1 : class_Small.smallBytes s = s := list_ext (by
      rw [small_list]
      exact (List.map_congr_left fun b hb => (hp b hb).1).trans (List.map_id' _))
    have e2 : trimB s = s := list_ext (trim_all _ fun b hb => (hp b hb).2)
    rw [if_pos h1, e1, e2, if_pos rfl]
    have : (s.toList != s.toList) = false := by simp
    rw [this]
    exact laws_j2 s t hs ht k
  · rw [if_neg h1]
    exact laws_j2 s t hs ht k
theorem ClassLaws : decanterlaw03_ClassLaws.Pure := by
  intro s t _ _
  refine ⟨11, ?_⟩
  unfold decanterlaw03_ClassLaws.f
  rw [speaks_ok, Option.bind_some, if_pos rfl]
  have big : decanterlaw03_ClassLaws.j0 11 s t true = some true := by
    rw [decanterlaw03_ClassLaws.j0, if_pos rfl, speaks_ok]
    rfl
  by_cases h1 : (s.size : Int) > 300
  · rw [if_pos h1]
    exact big
  · rw [if_neg h1]
    by_cases h2 : (t.size : Int) > 300
    · rw [decide_eq_true h2]
      exact big
    · have hz1 := small_size s
      have hz2 := small_size t
      have hz3 := trimB_size s
      have e1 : class_Small.smallBytes (class_Small.smallBytes s) = class_Small.smallBytes s := list_ext (by
        rw [small_list, small_list, List.map_map]
        exact List.map_congr_left fun b _ => low_low b)
      have e2 : trimB (trimB s) = trimB s := list_ext (trim_trim _)
      have e3 : trimB (class_Small.smallBytes s) = class_Small.smallBytes (trimB s) := list_ext (trim_map _)
      have e4 : class_Small.smallBytes (s ++ t) = class_Small.smallBytes s ++ class_Small.smallBytes t := list_ext (by
        rw [small_list, app_list, app_list, small_list, small_list, List.map_append])
      rw [decide_eq_false h2, decanterlaw03_ClassLaws.j0, if_neg (by decide), small_f s (by omega), Option.bind_some, trim_f s (by omega), Option.bind_some, small_f _ (by omega), Option.bind_some, e1, if_pos rfl, trim_f _ (by omega), Option.bind_some, e2, if_pos rfl, trim_f _ (by omega), Option.bind_some, small_f _ (by omega), Option.bind_some, e3, if_pos rfl, if_pos (by omega), small_f (s ++ t) (by rw [ByteArray.size_append]; omega), Option.bind_some, small_f t (by omega), Option.bind_some, if_pos (by omega), e4, if_pos rfl, hz1]
      have : ((s.size : Int) != (s.size : Int)) = false := by simp
      rw [this]
      exact laws_j1 s t (by omega) (by omega) 8
end Go.Proofs.YtinjbabmpnljoaaDoor.Pure
