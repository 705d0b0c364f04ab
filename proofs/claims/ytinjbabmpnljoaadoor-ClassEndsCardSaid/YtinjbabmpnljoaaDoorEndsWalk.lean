/-
  ClassEnds: the closure that gives blanks, and the law's own walk.
-/
import Derived.Test.YtinjbabmpnljoaaDoorPClassTx2
import Derived.Test.YtinjbabmpnljoaaDoorTexts
import Derived.Lib.Hide
import Derived.Deep.LoopGhost
import Derived.Handy
import Derived.IntWalk
namespace Go.Proofs.YtinjbabmpnljoaaDoor.Ends
open Go.IntWalk Go.RowKit Go.Proofs.YtinjbabmpnljoaaDoor.Pure Go.Proofs.YtinjbabmpnljoaaDoor.PClassT Go.Proofs.YtinjbabmpnljoaaDoorW.PrintWords Go.Proofs.YtinjbabmpnljoaaDoorW.PrintLast

def AllB (v : ByteArray) : Prop := ∀ b ∈ v.data.toList, Pure.blank b = true
theorem allB_nil : AllB ⟨#[]⟩ := fun b hb => by cases hb
theorem allB_snoc (v : ByteArray) (c : UInt8) (h : AllB v) (hc : Pure.blank c = true) : AllB (v ++ ⟨#[c]⟩) := fun b hb => by
  rw [ByteArray.data_append, Array.toList_append] at hb
  rcases List.mem_append.1 hb with h1 | h1
  · exact h b h1
  · obtain rfl := List.mem_singleton.1 h1
    exact hc
set_option maxRecDepth 100000 in
set_option maxHeartbeats 4000000 in
theorem blanks_any (n : Int) (h0 : 0 ≤ n) (h1 : n ≤ 255) (w : World) :
    Calls Tryd.prog 28 #[.int .u8 n] w fun e w' => ∃ v : ByteArray, e = .returned (.string v) ∧ AllB v ∧ v.size ≤ 8 ∧ Below w.heap.size w w' := by
  obtain ⟨m, hm, hm8⟩ : ∃ m : Nat, n % 8 = (m : Int) ∧ m < 8 := ⟨(n % 8).toNat, by omega, by omega⟩
  have ht : Int.tmod n 8 = (m : Int) := by rw [Int.tmod_eq_emod_of_nonneg h0]; exact hm
  go_enter Tryd.func28, Tryd.ntmps28
  go_wp2
  go_loopg [3, 8] m (fun gg s3 s8 wr => ∃ (i : Nat) (v : ByteArray), i ≤ m ∧ m - i ≤ gg ∧ s8 = .int .i64 i ∧ s3 = .string v ∧ v.size ≤ i ∧ Lib.Kept (AllB v) ∧ Hid (Below w.heap.size w wr))
  case atStart => exact ⟨0, ⟨#[]⟩, by omega, by omega, rfl, rfl, Nat.le_refl _, allB_nil, Below.refl _ _⟩
  case round =>
    obtain ⟨i, v, hi, hgg, rfl, rfl, hv, HA, HB⟩ := hrel
    by_cases hlt : i < m
    · have hq : Int.tmod ((i : Int) + n) 4 = 0 ∨ Int.tmod ((i : Int) + n) 4 = 1 ∨ Int.tmod ((i : Int) + n) 4 = 2 ∨ Int.tmod ((i : Int) + n) 4 = 3 := by rw [Int.tmod_eq_emod_of_nonneg (by omega)]; omega
      rcases hq with hq | hq | hq | hq
      · go_wp2
        go_roundg (m - (i + 1))
        case measure => omega
        case rel => exact ⟨i + 1, _, by omega, by omega, by go_num, rfl, by rw [ByteArray.size_append]; exact Nat.add_le_add_right hv 1, allB_snoc v 32 HA rfl, HB.out.alloc HB.out.size _⟩
      · go_wp2
        go_roundg (m - (i + 1))
        case measure => omega
        case rel => exact ⟨i + 1, _, by omega, by omega, by go_num, rfl, by rw [ByteArray.size_append]; exact Nat.add_le_add_right hv 1, allB_snoc v 9 HA rfl, HB.out.alloc HB.out.size _⟩
      · go_wp2
        go_roundg (m - (i + 1))
        case measure => omega
        case rel => exact ⟨i + 1, _, by omega, by omega, by go_num, rfl, by rw [ByteArray.size_append]; exact Nat.add_le_add_right hv 1, allB_snoc v 10 HA rfl, HB.out.alloc HB.out.size _⟩
      · go_wp2
        go_roundg (m - (i + 1))
        case measure => omega
        case rel => exact ⟨i + 1, _, by omega, by omega, by go_num, rfl, by rw [ByteArray.size_append]; exact Nat.add_le_add_right hv 1, allB_snoc v 12 HA rfl, HB.out.alloc HB.out.size _⟩
    · go_wp2
      go_ret
      exact ⟨v, rfl, HA, by omega, HB.out⟩
/-! ### The plain law -/
theorem L_blank : ∀ (A Y : List UInt8), (∀ b ∈ A, Pure.blank b = true) → Pure.dropL (A ++ Y) = Pure.dropL Y
  | [], _, _ => rfl
  | b :: A, Y, h => by
    rw [List.cons_append, L_cons, h b (List.mem_cons_self ..), if_pos rfl]
    exact L_blank A Y fun c hc => h c (List.mem_cons_of_mem _ hc)
theorem R_blank (X B : List UInt8) (h : ∀ b ∈ B, Pure.blank b = true) : Pure.dropR (X ++ B) = Pure.dropR X := by
  show (Pure.dropL (X ++ B).reverse).reverse = (Pure.dropL X.reverse).reverse
  rw [List.reverse_append, L_blank _ _ (fun b hb => h b (List.mem_reverse.1 hb))]
theorem trim_between (A B T : List UInt8) (hA : ∀ b ∈ A, Pure.blank b = true) (hB : ∀ b ∈ B, Pure.blank b = true) (hT : trimL T = T) : trimL (A ++ T ++ B) = T := by
  unfold trimL at *
  rw [R_blank _ _ hB, LR, L_blank _ _ hA, ← LR, hT]
theorem trim_blank (A : List UInt8) (hA : ∀ b ∈ A, Pure.blank b = true) : trimL A = [] := by
  have := trim_between A [] [] hA (fun b hb => by cases hb) rfl
  rw [List.append_nil, List.append_nil] at this
  exact this
theorem list_ext' {u v : ByteArray} (h : u.data.toList = v.data.toList) : u = v := list_ext h
theorem ends_mid (s va vb : ByteArray) (hA : AllB va) (hB : AllB vb) : trimB (va ++ trimB s ++ vb) = trimB s := by
  refine list_ext ?_
  show trimL (va ++ trimB s ++ vb).data.toList = trimL s.data.toList
  rw [ByteArray.data_append, Array.toList_append, ByteArray.data_append, Array.toList_append]
  exact trim_between _ _ _ hA hB (trim_trim _)
theorem ends_none (va : ByteArray) (hA : AllB va) : trimB va = ⟨#[]⟩ := list_ext (trim_blank _ hA)
theorem L_head : ∀ (l : List UInt8) (b : UInt8) (t : List UInt8), Pure.dropL l = b :: t → Pure.blank b = false
  | [], _, _, h => by cases h
  | c :: l, b, t, h => by
    rw [L_cons] at h
    cases hc : Pure.blank c with
    | true => rw [hc, if_pos rfl] at h; exact L_head l b t h
    | false =>
      rw [hc, if_neg (by decide)] at h
      obtain ⟨rfl, _⟩ := List.cons.inj h
      exact hc
theorem R_last (l : List UInt8) (b : UInt8) (t : List UInt8) (h : Pure.dropR l = t ++ [b]) : Pure.blank b = false := by
  have h2 : Pure.dropL l.reverse = b :: t.reverse := by
    have := congrArg List.reverse (show (Pure.dropL l.reverse).reverse = t ++ [b] from h)
    rw [List.reverse_reverse, List.reverse_append] at this
    exact this
  exact L_head _ _ _ h2
theorem trim_first (s : ByteArray) (h : 0 < (trimB s).size) : Pure.blank ((trimB s)[0]'h) = false := by
  have hl : 0 < (trimB s).data.toList.length := by rw [size_list]; exact h
  have e : (trimB s).data.toList = (trimB s).data.toList[0] :: (trimB s).data.toList.drop 1 := by
    have := List.drop_eq_getElem_cons hl
    rw [List.drop_zero] at this
    exact this
  have e2 : (trimB s).data.toList[0] = (trimB s)[0]'h := Array.getElem_toList ..
  rw [e2] at e
  exact L_head _ _ _ e
theorem trim_last (s : ByteArray) (m : Nat) (h : m < (trimB s).size) (hm : (trimB s).size = m + 1) : Pure.blank ((trimB s)[m]'h) = false := by
  have hl : m < (trimB s).data.toList.length := by rw [size_list]; exact h
  have e : (trimB s).data.toList = (trimB s).data.toList.take m ++ [(trimB s).data.toList[m]] := by
    rw [← List.take_succ_eq_append_getElem hl, List.take_of_length_le (by rw [size_list]; omega)]
  have e2 : (trimB s).data.toList[m] = (trimB s)[m]'h := Array.getElem_toList ..
  rw [e2] at e
  have e3 : (trimB s).data.toList = Pure.dropR (Pure.dropL s.data.toList) := LR _
  rw [e3] at e
  exact R_last _ _ _ e
theorem blank_f (b : UInt8) (h : Pure.blank b = false) : class_Blank.f (b.toNat : Int) = some false := by
  have key : ∀ n : Fin 256, Pure.blank (UInt8.ofNat n.val) = false → class_Blank.f ((UInt8.ofNat n.val).toNat : Int) = some false := by decide +kernel
  have := key ⟨b.toNat, b.toNat_lt⟩
  rw [UInt8.ofNat_toNat] at this
  exact this h
theorem name_trim (s : ByteArray) (h : nameB s = true) : trimB s = s := by
  unfold nameB at h
  rw [Bool.and_eq_true] at h
  exact list_ext (trim_all _ fun b hb => (all_plain _ 0 h.2 b hb).2)
/-! ### The walk -/
theorem below_all {W w1 w2 : World} (h : Below W.heap.size W w1) (k : Below w1.heap.size w1 w2) : Below W.heap.size W w2 := h.trans (k.mono h.size)
set_option maxRecDepth 100000 in
set_option maxHeartbeats 4000000 in
theorem walk (s : ByteArray) (a b : Int) (ha : 0 ≤ a ∧ a ≤ 255) (hb : 0 ≤ b ∧ b ≤ 255) (w : World) :
    Calls Tryd.prog 11 #[.string s, .int .u8 a, .int .u8 b] w fun e w' => e = .returned (.bool true) ∧ Below w.heap.size w w' := by
  have sp := fun w => decanterlaw03_speaks.calls true w speaks_ok
  by_cases hs : s.size ≤ 200
  · have hz := trimB_size s
    have T1 := fun w => class_Trim.calls s (trimB s) w (trim_f s (by omega))
    have TM := fun (va vb : ByteArray) (hA : AllB va) (hB : AllB vb) (h1 : va.size ≤ 8) (h2 : vb.size ≤ 8) w => class_Trim.calls (va ++ trimB s ++ vb) (trimB s) w (by rw [trim_f _ (by rw [ByteArray.size_append, ByteArray.size_append]; omega), ends_mid s va vb hA hB])
    have TN := fun (va : ByteArray) (hA : AllB va) (h1 : va.size ≤ 8) w => class_Trim.calls va ⟨#[]⟩ w (by rw [trim_f _ (by omega), ends_none va hA])
    have NM := fun w => class_Name.calls s (nameB s) w (name_f s (by omega))
    have NT := name_trim s
    have BF := fun h w => class_Blank.calls _ false w (blank_f _ (trim_first s h))
    have BL := fun m h hm w => class_Blank.calls _ false w (blank_f _ (trim_last s m h hm))
    have hsI : (s.size : Int) ≤ 200 := by omega
    generalize trimB s = t at *
    have HT1 := Lib.hid T1
    have HTM := Lib.hid TM
    have HTN := Lib.hid TN
    have HNM := Lib.hid NM
    have HNT := Lib.hid NT
    have HBF := Lib.hid BF
    have HBL := Lib.hid BL
    have HZ := Lib.hid hz
    have HS := Lib.hid hs
    clear T1 TM TN NM NT BF BL hz hs
    by_cases hem : t.toList = []
    · have hem2 : t.toList.isEmpty = true := by rw [hem]; rfl
      go_enter Tryd.func11, Tryd.ntmps11
      go_wp2_with (first | (go_at_call 21; refine (sp _).mono ?_; rintro e w1 ⟨rfl, hb1⟩) | (go_at_call 24; refine (HT1.out _).mono ?_; rintro e w2 ⟨rfl, hb2⟩))
      have B2 := Lib.hid (below_all hb1 hb2)
      clear hb1 hb2
      refine (blanks_any a ha.1 ha.2 _).mono ?_
      rintro e w3 ⟨va, rfl, hA, hA8, hb3⟩
      have B3 := Lib.hid (below_all B2.out hb3)
      have HA := Lib.hid hA
      have HA8 := Lib.hid hA8
      clear hb3 hA hA8 B2
      have hz1 : va.size + t.size ≤ 9223372036854775807 := by have := HA8.out; have := HZ.out; have := HS.out; omega
      go_wp2_with fail
      refine (blanks_any b hb.1 hb.2 _).mono ?_
      rintro e w4 ⟨vb, rfl, hA, hA8, hb4⟩
      have B4 := Lib.hid (below_all B3.out hb4)
      have HC := Lib.hid hA
      have HC8 := Lib.hid hA8
      clear hb4 hA hA8 B3
      have hz2 : va.size + t.size + vb.size ≤ 9223372036854775807 := by have := HA8.out; have := HC8.out; have := HZ.out; have := HS.out; omega
      have hz3 : (va ++ t).size + vb.size ≤ 9223372036854775807 := by rw [ByteArray.size_append]; exact hz2
      go_wp2_with (go_at_call 24; refine (HTM.out va vb HA.out HC.out HA8.out HC8.out _).mono ?_; rintro e w5 ⟨rfl, hb5⟩)
      have B5 := Lib.hid (below_all B4.out hb5)
      clear hb5 B4
      refine (blanks_any a ha.1 ha.2 _).mono ?_
      rintro e w6 ⟨vc, rfl, hA, hA8, hb6⟩
      have B6 := Lib.hid (below_all B5.out hb6)
      have HD := Lib.hid hA
      have HD8 := Lib.hid hA8
      clear hb6 hA hA8 B5
      go_wp2_with (go_at_call 24; refine (HTN.out vc HD.out HD8.out _).mono ?_; rintro e w7 ⟨rfl, hb7⟩)
      go_ret
      exact ⟨rfl, below_all B6.out hb7⟩
    · have hem2 : t.toList.isEmpty = false := by
        cases hq : t.toList with
        | nil => exact absurd hq hem
        | cons _ _ => rfl
      have hpos : 0 < t.size := by
        rcases Nat.eq_zero_or_pos t.size with h | h
        · exact absurd (by rw [Lib.toList_data]; exact List.eq_nil_of_length_eq_zero (by rw [size_list]; exact h)) hem
        · exact h
      obtain ⟨m, hm⟩ : ∃ m, t.size = m + 1 := ⟨t.size - 1, by omega⟩
      have hmt : m < t.size := by omega
      have BF := HBF.out hpos
      have BL := HBL.out m hmt hm
      have w32 : ∀ x : UInt8, wrap32 (x.toNat : Int) = (x.toNat : Int) := fun x => wrap32_in _ (by have := x.toNat_lt; omega)
      rw [← w32] at BF BL
      have HBF2 := Lib.hid BF
      have HBL2 := Lib.hid BL
      clear BF BL w32
      have hm1 : (t.size : Int) - 1 = (m : Int) := by omega
      cases hnm : nameB s with
      | true =>
        have hts := HNT.out hnm
        have hee0 : (t.toList == s.toList) = true := by rw [hts]; simp
        have hee := Lib.hid hee0
        clear hts hee0
        rw [hnm] at HNM
        go_enter Tryd.func11, Tryd.ntmps11
        go_wp2_with (first | (go_at_call 21; refine (sp _).mono ?_; rintro e w1 ⟨rfl, hb1⟩) | (go_at_call 24; refine (HT1.out _).mono ?_; rintro e w2 ⟨rfl, hb2⟩))
        have B2 := Lib.hid (below_all hb1 hb2)
        clear hb1 hb2
        refine (blanks_any a ha.1 ha.2 _).mono ?_
        rintro e w3 ⟨va, rfl, hA, hA8, hb3⟩
        have B3 := Lib.hid (below_all B2.out hb3)
        have HA := Lib.hid hA
        have HA8 := Lib.hid hA8
        clear hb3 hA hA8 B2
        have hz1 : va.size + t.size ≤ 9223372036854775807 := by have := HA8.out; have := HZ.out; have := HS.out; omega
        go_wp2_with fail
        refine (blanks_any b hb.1 hb.2 _).mono ?_
        rintro e w4 ⟨vb, rfl, hA, hA8, hb4⟩
        have B4 := Lib.hid (below_all B3.out hb4)
        have HC := Lib.hid hA
        have HC8 := Lib.hid hA8
        clear hb4 hA hA8 B3
        have hz2 : va.size + t.size + vb.size ≤ 9223372036854775807 := by have := HA8.out; have := HC8.out; have := HZ.out; have := HS.out; omega
        have hz3 : (va ++ t).size + vb.size ≤ 9223372036854775807 := by rw [ByteArray.size_append]; exact hz2
        go_wp2_with (go_at_call 24; refine (HTM.out va vb HA.out HC.out HA8.out HC8.out _).mono ?_; rintro e w5 ⟨rfl, hb5⟩)
        have B5 := Lib.hid (below_all B4.out hb5)
        clear hb5 B4
        refine (blanks_any a ha.1 ha.2 _).mono ?_
        rintro e w6 ⟨vc, rfl, hA, hA8, hb6⟩
        have B6 := Lib.hid (below_all B5.out hb6)
        have HD := Lib.hid hA
        have HD8 := Lib.hid hA8
        clear hb6 hA hA8 B5
        go_wp2_with (go_at_call 24; refine (HTN.out vc HD.out HD8.out _).mono ?_; rintro e w7 ⟨rfl, hb7⟩)
        have B7 := Lib.hid (below_all B6.out hb7)
        clear hb7 B6
        have hee1 := hee.out
        refine (HBF2.out _).mono ?_
        rintro e w8 ⟨rfl, hb8⟩
        have B8 := Lib.hid (below_all B7.out hb8)
        clear hb8 B7
        go_wp2_with fail
        refine (HBL2.out _).mono ?_
        rintro e w9 ⟨rfl, hb9⟩
        have B9 := Lib.hid (below_all B8.out hb9)
        clear hb9 B8
        go_wp2_with (go_at_call 26; refine (HNM.out _).mono ?_; rintro e w10 ⟨rfl, hb10⟩)
        go_ret
        exact ⟨rfl, below_all B9.out hb10⟩
      | false =>
        rw [hnm] at HNM
        go_enter Tryd.func11, Tryd.ntmps11
        go_wp2_with (first | (go_at_call 21; refine (sp _).mono ?_; rintro e w1 ⟨rfl, hb1⟩) | (go_at_call 24; refine (HT1.out _).mono ?_; rintro e w2 ⟨rfl, hb2⟩))
        have B2 := Lib.hid (below_all hb1 hb2)
        clear hb1 hb2
        refine (blanks_any a ha.1 ha.2 _).mono ?_
        rintro e w3 ⟨va, rfl, hA, hA8, hb3⟩
        have B3 := Lib.hid (below_all B2.out hb3)
        have HA := Lib.hid hA
        have HA8 := Lib.hid hA8
        clear hb3 hA hA8 B2
        have hz1 : va.size + t.size ≤ 9223372036854775807 := by have := HA8.out; have := HZ.out; have := HS.out; omega
        go_wp2_with fail
        refine (blanks_any b hb.1 hb.2 _).mono ?_
        rintro e w4 ⟨vb, rfl, hA, hA8, hb4⟩
        have B4 := Lib.hid (below_all B3.out hb4)
        have HC := Lib.hid hA
        have HC8 := Lib.hid hA8
        clear hb4 hA hA8 B3
        have hz2 : va.size + t.size + vb.size ≤ 9223372036854775807 := by have := HA8.out; have := HC8.out; have := HZ.out; have := HS.out; omega
        have hz3 : (va ++ t).size + vb.size ≤ 9223372036854775807 := by rw [ByteArray.size_append]; exact hz2
        go_wp2_with (go_at_call 24; refine (HTM.out va vb HA.out HC.out HA8.out HC8.out _).mono ?_; rintro e w5 ⟨rfl, hb5⟩)
        have B5 := Lib.hid (below_all B4.out hb5)
        clear hb5 B4
        refine (blanks_any a ha.1 ha.2 _).mono ?_
        rintro e w6 ⟨vc, rfl, hA, hA8, hb6⟩
        have B6 := Lib.hid (below_all B5.out hb6)
        have HD := Lib.hid hA
        have HD8 := Lib.hid hA8
        clear hb6 hA hA8 B5
        go_wp2_with (go_at_call 24; refine (HTN.out vc HD.out HD8.out _).mono ?_; rintro e w7 ⟨rfl, hb7⟩)
        have B7 := Lib.hid (below_all B6.out hb7)
        clear hb7 B6
        refine (HBF2.out _).mono ?_
        rintro e w8 ⟨rfl, hb8⟩
        have B8 := Lib.hid (below_all B7.out hb8)
        clear hb8 B7
        go_wp2_with fail
        refine (HBL2.out _).mono ?_
        rintro e w9 ⟨rfl, hb9⟩
        have B9 := Lib.hid (below_all B8.out hb9)
        clear hb9 B8
        go_wp2_with (go_at_call 26; refine (HNM.out _).mono ?_; rintro e w10 ⟨rfl, hb10⟩)
        go_ret
        exact ⟨rfl, below_all B9.out hb10⟩
  · have hsI : (200 : Int) < (s.size : Int) := by omega
    go_enter Tryd.func11, Tryd.ntmps11
    go_wp2_with (first | (go_at_call 21; refine (sp w).mono ?_; rintro e w1 ⟨rfl, hb1⟩) | (go_at_call 21; refine (sp w1).mono ?_; rintro e w2 ⟨rfl, hb2⟩))
    go_ret
    exact ⟨rfl, below_all hb1 hb2⟩
end Go.Proofs.YtinjbabmpnljoaaDoor.Ends
