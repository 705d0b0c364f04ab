import Derived.Test.YtdppomkilojmlaaRawLaws
import Derived.Test.YtdppomkilojmlaaPRawx5
namespace Go.Proofs.Ytdppomkilojmlaa.Pure
open Go.IntWalk Go.RowKit Go.Proofs.Ytdppomkilojmlaa.PRaw Go.Proofs.YtdppomkilojmlaaW.PrintWords Go.Proofs.YtdppomkilojmlaaW.PrintLast

theorem bytesOf_app (a b : ByteArray) : bytesOf (a ++ b) = bytesOf a ++ bytesOf b := by
  unfold bytesOf
  rw [ByteArray.data_append, Array.toList_append, List.map_append]
theorem str_bytes (s : ByteArray) : strOfNums (bytesOf s) = s := by
  unfold strOfNums bytesOf
  rw [List.map_map]
  have : s.data.toList.map ((fun n : Int => UInt8.ofNat n.toNat) ∘ fun b : UInt8 => ((b.toNat : Int))) = s.data.toList := by
    conv => rhs; rw [← List.map_id s.data.toList]
    refine List.map_congr_left fun b _ => ?_
    show UInt8.ofNat ((b.toNat : Int)).toNat = b
    rw [Int.toNat_natCast, UInt8.ofNat_toNat]
  rw [this]
theorem bytes_bytesOf (s : ByteArray) : Bytes (bytesOf s) := by
  intro x hx
  obtain ⟨b, _, rfl⟩ := List.mem_map.1 hx
  have := b.toNat_lt
  omega
theorem kind_of_plain (l : List Int) (name : ByteArray) (hno : ∀ x ∈ l, x ≠ 60) (h0 : kindOf name.toList ≠ 0) : endIs l name 0 = l.length := by
  unfold endIs
  rw [if_neg h0]
  split
  · rfl
  · rw [Nat.sub_zero, endOf_skip l name l.length l.length 0 (Nat.le_refl _) (fun j hj h => ?_), Nat.sub_self, endOf, Nat.zero_add]
    rw [Nat.zero_add] at h
    unfold rd at h
    rw [Int.toNat_natCast, List.getD_eq_getElem?_getD, List.getElem?_eq_getElem hj] at h
    exact hno _ (List.getElem_mem hj) h
/-- An end tag behind bytes without a <. -/
theorem end_closed (P B : List Int) (name : ByteArray) (hno : ∀ x ∈ P, x ≠ 60) (h0 : kindOf name.toList ≠ 0) (h3 : kindOf name.toList ≠ 3) (hs : class_Small.smallBytes name = name) :
    endIs (P ++ (60 :: 47 :: (bytesOf name ++ 62 :: B))) name 0 = P.length := by
  generalize hl : P ++ (60 :: 47 :: (bytesOf name ++ 62 :: B)) = l
  have hlen : l.length = P.length + (name.size + 1 + B.length + 2) := by
    rw [← hl, List.length_append, List.length_cons, List.length_cons, List.length_append, List.length_cons, bytesOf_length]; omega
  have hd : l.drop P.length = 60 :: 47 :: (bytesOf name ++ 62 :: B) := by rw [← hl, List.drop_left]
  have hat : ∀ j : Nat, rd l ((P.length + j : Nat) : Int) = rd (60 :: 47 :: (bytesOf name ++ 62 :: B)) (j : Int) := fun j => by rw [← hd, rd_drop]
  unfold endIs
  rw [if_neg h0, if_neg h3, Nat.sub_zero, endOf_skip l name P.length l.length 0 (by omega) (fun j hj h => ?_), Nat.zero_add]
  · obtain ⟨m, hm⟩ : ∃ m, l.length - P.length = m + 1 := ⟨l.length - P.length - 1, by omega⟩
    rw [hm, endOf_succ, if_pos]
    refine ⟨hat 0, ?_⟩
    unfold E
    have h47 : rd l ((P.length + 1 : Nat) : Int) = 47 := hat 1
    rw [if_neg (by omega), if_pos h47, ← cut_eq, hd, show 2 + name.size = name.size + 2 from by omega]
    have hc : (List.take (name.size + 2) (60 :: 47 :: (bytesOf name ++ 62 :: B))).drop 2 = bytesOf name := by
      show List.take name.size (bytesOf name ++ 62 :: B) = _
      rw [List.take_append_of_le_length (by rw [bytesOf_length]; omega), List.take_of_length_le (by rw [bytesOf_length]; omega)]
    rw [hc, str_bytes, hs, if_pos rfl, show P.length + 2 + name.size = P.length + (name.size + 2) from by omega, hat]
    have : rd (60 :: 47 :: (bytesOf name ++ 62 :: B)) ((name.size + 2 : Nat) : Int) = 62 := by
      unfold rd
      rw [Int.toNat_natCast, List.getD_eq_getElem?_getD]
      show ((bytesOf name ++ 62 :: B)[name.size]?).getD 0 = 62
      rw [List.getElem?_append_right (by rw [bytesOf_length]; omega), bytesOf_length, Nat.sub_self]; rfl
    rw [this]; rfl
  · rw [Nat.zero_add] at h
    have : rd l (j : Int) = P[j]'hj := by
      unfold rd
      rw [Int.toNat_natCast, List.getD_eq_getElem?_getD, ← hl, List.getElem?_append_left hj, List.getElem?_eq_getElem hj]; rfl
    exact hno _ (List.getElem_mem hj) (this.symm.trans h)
def fnames : List ByteArray := rnames.take 8
theorem far_j2 (P B : List Int) (name : ByteArray) (hP : Bytes P) (hB : Bytes B) (hno : ∀ x ∈ P, x ≠ 60) (hPl : P.length ≤ 200) (hBl : B.length ≤ 200) (hn : name.size ≤ 100) (h0 : kindOf name.toList ≠ 0) (h3 : kindOf name.toList ≠ 3) (hs : class_Small.smallBytes name = name) (k : Nat) (hk : 1000 ≤ k) :
    decanterlaw09_RawFar.j2 (k + 1) B name P false = some true := by
  have hsz : (((⟨#[60, 47]⟩ : ByteArray) ++ name) ++ (⟨#[62]⟩ : ByteArray)).size = name.size + 3 := by
    rw [ByteArray.size_append, ByteArray.size_append]
    show 2 + name.size + 1 = _; omega
  have hsz1 : ((⟨#[60, 47]⟩ : ByteArray) ++ name).size = name.size + 2 := by
    rw [ByteArray.size_append]
    show 2 + name.size = _; omega
  have hb : bytesOf (((⟨#[60, 47]⟩ : ByteArray) ++ name) ++ (⟨#[62]⟩ : ByteArray)) = 60 :: 47 :: (bytesOf name ++ [62]) := by
    rw [bytesOf_app, bytesOf_app]; rfl
  have hB1 : Bytes (P ++ (60 :: 47 :: (bytesOf name ++ [62]))) := by
    intro x hx
    rcases List.mem_append.1 hx with h | h
    · exact hP x h
    · rcases List.mem_cons.1 h with rfl | h
      · omega
      · rcases List.mem_cons.1 h with rfl | h
        · omega
        · rcases List.mem_append.1 h with h | h
          · exact bytes_bytesOf _ x h
          · simp at h; omega
  have hB2 : Bytes ((P ++ (60 :: 47 :: (bytesOf name ++ [62]))) ++ B) := by
    intro x hx
    rcases List.mem_append.1 hx with h | h
    · exact hB1 x h
    · exact hB x h
  have hl1 : (P ++ (60 :: 47 :: (bytesOf name ++ [62]))).length = P.length + name.size + 3 := by
    rw [List.length_append, List.length_cons, List.length_cons, List.length_append, bytesOf_length]
    show P.length + (name.size + 1 + 1 + 1) = _; omega
  rw [decanterlaw09_RawFar.j2, if_neg (by decide), Option.bind_some, if_pos (by rw [List.length_nil]; omega), Option.bind_some, List.nil_append, if_pos (by omega), if_pos (by omega), if_pos (by rw [hsz]; omega), hb, Option.bind_some]
  have r1 := raw_eq _ name hB1 (by omega) (by omega) k 0 (by omega) (by omega)
  rw [show ((0 : Nat) : Int) = 0 from rfl] at r1
  rw [r1, Option.bind_some, end_closed P [] name hno h0 h3 hs, if_pos rfl, if_pos (by omega)]
  have r2 := raw_eq _ name hB2 (by rw [List.length_append]; omega) (by omega) k 0 (by omega) (by rw [List.length_append]; omega)
  rw [show ((0 : Nat) : Int) = 0 from rfl] at r2
  have he : (P ++ (60 :: 47 :: (bytesOf name ++ [62]))) ++ B = P ++ (60 :: 47 :: (bytesOf name ++ 62 :: B)) := by simp
  rw [r2, Option.bind_some, he, end_closed P B name hno h0 h3 hs, beq_self_eq_true]
theorem far_l0 (l B : List Int) (name : ByteArray) (hb : Bytes l) (hB : Bytes B) (hl : l.length ≤ 200) (hBl : B.length ≤ 200) (hn : name.size ≤ 100) (h0 : kindOf name.toList ≠ 0) (h3 : kindOf name.toList ≠ 3) (hs : class_Small.smallBytes name = name) :
    ∀ n k p, p + n = l.length → 1010 + n ≤ k → decanterlaw09_RawFar.l0 k B name ((l.take p).filter (· ≠ 60)) l (l.length : Int) (p : Int) = some true
  | n, 0, p, _, h => by omega
  | 0, k + 1, p, hp, hk => by
    have hP : Bytes (l.filter (· ≠ 60)) := fun x hx => hb x (List.mem_filter.1 hx).1
    have hno : ∀ x ∈ l.filter (· ≠ 60), x ≠ 60 := fun x hx => by simpa using (List.mem_filter.1 hx).2
    have hPl : (l.filter (· ≠ 60)).length ≤ l.length := List.length_filter_le _ _
    have r1 := raw_eq _ name hP (by omega) (by omega) k 0 (by omega) (by omega)
    rw [show ((0 : Nat) : Int) = 0 from rfl] at r1
    rw [decanterlaw09_RawFar.l0, if_neg (by omega), List.take_of_length_le (by omega), r1, Option.bind_some, kind_of_plain _ name hno h0, if_pos rfl]
    obtain ⟨k', rfl⟩ : ∃ k', k = k' + 2 := ⟨k - 2, by omega⟩
    have hne3 : (kindOf name.toList == 3) = false := by simpa using h3
    rw [kind_eq, Option.bind_some, if_neg h0, Option.bind_some, hne3]
    exact far_j2 _ B name hP hB hno (by omega) hBl hn h0 h3 hs (k' + 1) (by omega)
  | n + 1, k + 1, p, hp, hk => by
    have e := wrap64_in ((p : Int) + 1) (by omega)
    have hpl : p < l.length := by omega
    have hr : rd l (p : Int) = l[p]'hpl := by
      unfold rd
      rw [Int.toNat_natCast, List.getD_eq_getElem?_getD, List.getElem?_eq_getElem hpl]; rfl
    have ih := far_l0 l B name hb hB hl hBl hn h0 h3 hs n k (p + 1) (by omega) (by omega)
    rw [List.take_add_one, List.getElem?_eq_getElem hpl, List.filter_append] at ih
    rw [decanterlaw09_RawFar.l0, if_pos (by omega), if_pos (by omega), if_pos (by omega), hr, e]
    by_cases hc : l[p]'hpl = 60
    · rw [if_pos hc]
      have hf : List.filter (fun x : Int => decide (x ≠ 60)) (some (l[p]'hpl)).toList = [] := by rw [hc]; rfl
      rw [hf, List.append_nil] at ih
      exact ih
    · rw [if_neg hc, if_pos (by have := List.length_filter_le (fun x : Int => decide (x ≠ 60)) (l.take p); rw [List.length_take] at this; omega)]
      have hf : List.filter (fun x : Int => decide (x ≠ 60)) (some (l[p]'hpl)).toList = [l[p]'hpl] := by simp [hc]
      rw [hf] at ih
      exact ih
theorem far_j0 (l B : List Int) (a : Int) (hb : Bytes l) (hB : Bytes B) (hl : l.length ≤ 200) (hBl : B.length ≤ 200) (ha : 0 ≤ a ∧ a ≤ 255) : decanterlaw09_RawFar.j0 2000 l B a false = some true := by
  have hm : 0 ≤ Int.tmod a 8 ∧ Int.tmod a 8 < 8 := by
    rw [Int.tmod_eq_emod_of_nonneg ha.1]; omega
  rw [decanterlaw09_RawFar.j0, if_neg (by decide), Option.bind_some]
  show (if 0 ≤ Int.tmod a 8 then (if Int.tmod a 8 < ((fnames.length : Nat) : Int) then (decanterlaw09_RawFar.l0 1999 B (rdOf ByteArray.empty fnames (Int.tmod a 8)) ([] : List Int) l (l.length : Int) 0) else none) else none) = some true
  generalize Int.tmod a 8 = i at hm
  rw [if_pos hm.1, if_pos (show i < ((fnames.length : Nat) : Int) from hm.2)]
  have hi : kindOf (rdOf ByteArray.empty fnames i).toList ≠ 0 ∧ kindOf (rdOf ByteArray.empty fnames i).toList ≠ 3 ∧ class_Small.smallBytes (rdOf ByteArray.empty fnames i) = rdOf ByteArray.empty fnames i ∧ (rdOf ByteArray.empty fnames i).size ≤ 100 := by
    obtain ⟨j, rfl⟩ := Int.eq_ofNat_of_zero_le hm.1
    have : ∀ j : Fin 8, kindOf (rdOf ByteArray.empty fnames (j.val : Int)).toList ≠ 0 ∧ kindOf (rdOf ByteArray.empty fnames (j.val : Int)).toList ≠ 3 ∧ class_Small.smallBytes (rdOf ByteArray.empty fnames (j.val : Int)) = rdOf ByteArray.empty fnames (j.val : Int) ∧ (rdOf ByteArray.empty fnames (j.val : Int)).size ≤ 100 := by decide +kernel
    exact this ⟨j, by omega⟩
  generalize rdOf ByteArray.empty fnames i = name at hi
  obtain ⟨h0, h3, hs, hn⟩ := hi
  exact far_l0 l B name hb hB hl hBl hn h0 h3 hs l.length 1999 0 (by omega) (by omega)
theorem RawFar : decanterlaw09_RawFar.Pure := by
  intro l B a _ _ hb _ _ hB ha
  refine ⟨2000, ?_⟩
  unfold decanterlaw09_RawFar.f
  show (some true : Option Bool).bind _ = _
  rw [Option.bind_some, if_pos rfl]
  by_cases h1 : (l.length : Int) > 200
  · rw [if_pos h1]; rfl
  · rw [if_neg h1]
    by_cases h2 : (B.length : Int) > 200
    · rw [decide_eq_true h2]; rfl
    · rw [decide_eq_false h2]
      exact far_j0 l B a (fun x hx => byte_of_wf (hb x hx)) (fun x hx => byte_of_wf (hB x hx)) (by omega) (by omega) (byte_of_wf ha)

end Go.Proofs.Ytdppomkilojmlaa.Pure
