import Derived.Test.YtinjbabmpnljoaaDoorPClassTx3
import Derived.IntWalk
namespace Go.Proofs.YtinjbabmpnljoaaDoor.Pure
open Go.IntWalk Go.RowKit Go.Proofs.YtinjbabmpnljoaaDoor.PClassT Go.Proofs.YtinjbabmpnljoaaDoorW.PrintWords Go.Proofs.YtinjbabmpnljoaaDoorW.PrintLast

theorem size_list (u : ByteArray) : u.data.toList.length = u.size := by rw [Array.length_toList]; rfl
theorem list_ext {u v : ByteArray} (h : u.data.toList = v.data.toList) : u = v := by
  obtain ⟨⟨a⟩⟩ := u
  obtain ⟨⟨b⟩⟩ := v
  dsimp only at h
  rw [h]
theorem bt_at (s : ByteArray) (i : Nat) (h : i < s.data.toList.length) : bt s (i : Int) = ((s.data.toList[i]).toNat : Int) := by
  have h' : i < s.size := by rw [size_list] at h; exact h
  unfold bt
  rw [dif_pos (show (i : Int).toNat < s.size by rw [Int.toNat_natCast]; exact h')]
  rw [Array.getElem_toList]
  rfl
theorem speaks_ok : decanterlaw03_speaks.f = some true := by decide +kernel
/-! ### Small -/
theorem small_f (s : ByteArray) (h : s.size ≤ 1000) : class_Small.f s = some (class_Small.smallBytes s) := by
  unfold class_Small.f
  rw [if_pos (by omega)]
theorem small_list (s : ByteArray) : (class_Small.smallBytes s).data.toList = s.data.toList.map class_Small.lowB := rfl
theorem ref_small_loop (s : ByteArray) (hs : s.size ≤ 1000) : ∀ n k i (acc : List Int), i + n = s.size → n + 1 ≤ k → acc.length = i →
    ∃ r : List Int, decanterref03_Small.l0 k s acc (i : Int) = some (strOfNums (acc ++ r)) ∧ (r.map fun n => UInt8.ofNat n.toNat) = (s.data.toList.drop i).map class_Small.lowB
  | n, 0, i, acc, _, h, _ => by omega
  | 0, k + 1, i, acc, hi, _, _ => by
    rw [decanterref03_Small.l0, if_neg (by omega)]
    refine ⟨[], by rw [List.append_nil], ?_⟩
    rw [List.drop_of_length_le (by rw [size_list]; omega)]
    rfl
  | n + 1, k + 1, i, acc, hi, hk, ha => by
    have hl : i < s.data.toList.length := by rw [size_list]; omega
    have e1 : wrap64 ((i : Int) + 1) = ((i + 1 : Nat) : Int) := by rw [wrap64_in _ (by omega)]; omega
    have hb := (s.data.toList[i]).toNat_lt
    obtain ⟨z, hz, hz2⟩ : ∃ z : Int, decanterref03_Lower.f (wrap64 (bt s (i : Int))) = some z ∧ UInt8.ofNat (z % 256).toNat = class_Small.lowB (s.data.toList[i]) := by
      rw [bt_at s i hl]
      generalize s.data.toList[i] = b at hb
      rw [wrap64_in _ (by omega)]
      unfold decanterref03_Lower.f class_Small.lowB
      by_cases h1 : 65 ≤ b.toNat
      · by_cases h2 : b.toNat ≤ 90
        · rw [if_pos (by omega), if_pos (by omega), if_pos ⟨h1, h2⟩, wrap64_in _ (by omega)]
          refine ⟨_, rfl, ?_⟩
          apply UInt8.toNat_inj.1
          rw [UInt8.toNat_ofNat', UInt8.toNat_add]
          have : (32 : UInt8).toNat = 32 := rfl
          omega
        · rw [if_pos (by omega), if_neg (by omega), if_neg (fun h => h2 h.2)]
          refine ⟨_, rfl, ?_⟩
          apply UInt8.toNat_inj.1
          rw [UInt8.toNat_ofNat']
          omega
      · rw [if_neg (by omega), if_neg (fun h => h1 h.1)]
        refine ⟨_, rfl, ?_⟩
        apply UInt8.toNat_inj.1
        rw [UInt8.toNat_ofNat']
        omega
    rw [decanterref03_Small.l0, if_pos (by omega), if_pos (by omega), hz, Option.bind_some, if_pos (by omega), e1]
    obtain ⟨r, hr, hr2⟩ := ref_small_loop s hs n k (i + 1) (acc ++ [z % 256]) (by omega) (by omega) (by rw [List.length_append, ha]; rfl)
    refine ⟨(z % 256) :: r, by rw [hr, List.append_assoc]; rfl, ?_⟩
    rw [List.map_cons, hr2, hz2, List.drop_eq_getElem_cons hl, List.map_cons]
theorem ref_small (s : ByteArray) (hs : s.size ≤ 1000) (k : Nat) (hk : 1001 ≤ k) : decanterref03_Small.f k s = some (class_Small.smallBytes s) := by
  obtain ⟨r, hr, hr2⟩ := ref_small_loop s hs s.size k 0 [] (by omega) (by omega) rfl
  unfold decanterref03_Small.f
  rw [show ((0 : Nat) : Int) = 0 from rfl] at hr
  rw [hr, List.nil_append]
  refine congrArg some (list_ext ?_)
  rw [small_list]
  rw [List.drop_zero] at hr2
  exact hr2
/-! ### Trim -/
abbrev dropL := class_Trim.dropL
abbrev dropR := class_Trim.dropR
abbrev blank := class_Trim.blank
theorem L_cons (b : UInt8) (l : List UInt8) : dropL (b :: l) = if blank b then dropL l else b :: l := rfl
theorem L_snoc (b : UInt8) : ∀ m : List UInt8, dropL (m ++ [b]) = if dropL m = [] then (if blank b then [] else [b]) else dropL m ++ [b]
  | [] => by
    show dropL [b] = _
    rw [L_cons]
    rfl
  | c :: m => by
    rw [List.cons_append, L_cons, L_cons, L_snoc b m]
    cases hc : blank c
    · simp
    · simp
theorem R_cons (b : UInt8) (l : List UInt8) : dropR (b :: l) = if dropR l = [] then (if blank b then [] else [b]) else b :: dropR l := by
  show (dropL (b :: l).reverse).reverse = if (dropL l.reverse).reverse = [] then _ else b :: (dropL l.reverse).reverse
  rw [List.reverse_cons, L_snoc]
  by_cases h : dropL l.reverse = []
  · have h' : (dropL l.reverse).reverse = [] := by rw [h]; rfl
    rw [if_pos h, if_pos h']
    split <;> rfl
  · have h' : ¬ (dropL l.reverse).reverse = [] := by rw [List.reverse_eq_nil_iff]; exact h
    rw [if_neg h, if_neg h', List.reverse_append]
    rfl
theorem LR (l : List UInt8) : dropL (dropR l) = dropR (dropL l) := by
  induction l with
  | nil => rfl
  | cons b l ih =>
    rw [R_cons, L_cons]
    cases hb : blank b
    · simp only [Bool.false_eq_true, if_false]
      rw [R_cons, hb]
      simp only [Bool.false_eq_true, if_false]
      by_cases hd : dropR l = []
      · rw [if_pos hd, L_cons, hb]; rfl
      · rw [if_neg hd, L_cons, hb]; rfl
    · simp only [if_true]
      by_cases hd : dropR l = []
      · rw [if_pos hd]
        rw [hd] at ih
        exact ih
      · rw [if_neg hd, L_cons, hb, if_pos rfl, ih]
theorem L_L (l : List UInt8) : dropL (dropL l) = dropL l := by
  induction l with
  | nil => rfl
  | cons b l ih =>
    rw [L_cons]
    cases hb : blank b
    · rw [if_neg (by decide), L_cons, hb, if_neg (by decide)]
    · rw [if_pos rfl, ih]
theorem R_R (l : List UInt8) : dropR (dropR l) = dropR l := by
  show (dropL ((dropL l.reverse).reverse).reverse).reverse = (dropL l.reverse).reverse
  rw [List.reverse_reverse, L_L]
def trimL (l : List UInt8) : List UInt8 := dropL (dropR l)
theorem trim_trim (l : List UInt8) : trimL (trimL l) = trimL l := by
  unfold trimL
  rw [LR l, R_R, LR (dropL l), L_L]
theorem low_blank (b : UInt8) : blank (class_Small.lowB b) = blank b := by
  have : ∀ n : Fin 256, blank (class_Small.lowB (UInt8.ofNat n.val)) = blank (UInt8.ofNat n.val) := by decide +kernel
  have := this ⟨b.toNat, b.toNat_lt⟩
  rwa [UInt8.ofNat_toNat] at this
theorem L_map (l : List UInt8) : dropL (l.map class_Small.lowB) = (dropL l).map class_Small.lowB := by
  induction l with
  | nil => rfl
  | cons b l ih =>
    rw [List.map_cons, L_cons, L_cons, low_blank]
    cases blank b
    · rfl
    · exact ih
theorem R_map (l : List UInt8) : dropR (l.map class_Small.lowB) = (dropR l).map class_Small.lowB := by
  show (dropL (l.map class_Small.lowB).reverse).reverse = ((dropL l.reverse).reverse).map class_Small.lowB
  rw [← List.map_reverse, L_map, List.map_reverse]
theorem trim_map (l : List UInt8) : trimL (l.map class_Small.lowB) = (trimL l).map class_Small.lowB := by
  unfold trimL
  rw [R_map, L_map]
theorem L_all (l : List UInt8) (h : ∀ b ∈ l, blank b = false) : dropL l = l := by
  cases l with
  | nil => rfl
  | cons b l => rw [L_cons, h b (List.mem_cons_self ..), if_neg (by decide)]
theorem trim_all (l : List UInt8) (h : ∀ b ∈ l, blank b = false) : trimL l = l := by
  have hr : dropR l = l := by
    show (dropL l.reverse).reverse = l
    rw [L_all _ (fun b hb => h b (List.mem_reverse.1 hb)), List.reverse_reverse]
  unfold trimL
  rw [hr, L_all l h]
theorem L_len (l : List UInt8) : (dropL l).length ≤ l.length := by
  induction l with
  | nil => exact Nat.le_refl _
  | cons b l ih =>
    rw [L_cons]
    split
    · simp only [List.length_cons]; omega
    · exact Nat.le_refl _
theorem R_len (l : List UInt8) : (dropR l).length ≤ l.length := by
  show ((dropL l.reverse).reverse).length ≤ _
  have := L_len l.reverse
  rw [List.length_reverse] at this ⊢
  exact this
def trimB (s : ByteArray) : ByteArray := ⟨(trimL s.data.toList).toArray⟩
theorem trimB_size (s : ByteArray) : (trimB s).size ≤ s.size := by
  rw [← size_list, ← size_list]
  show (trimL s.data.toList).length ≤ _
  unfold trimL
  exact Nat.le_trans (L_len _) (R_len _)
theorem trim_f (s : ByteArray) (h : s.size ≤ 1000) : class_Trim.f s = some (trimB s) := by
  unfold class_Trim.f
  rw [if_pos (by omega)]
  rfl
theorem ref_blank (b : UInt8) : decanterref03_Blank.f (b.toNat : Int) = some (blank b) := by
  have : ∀ n : Fin 256, decanterref03_Blank.f ((UInt8.ofNat n.val).toNat : Int) = some (blank (UInt8.ofNat n.val)) := by decide +kernel
  have := this ⟨b.toNat, b.toNat_lt⟩
  rwa [UInt8.ofNat_toNat] at this
theorem ref_trim_r : ∀ n k (u : ByteArray), u.size ≤ n → n + 1 ≤ k → n ≤ 1000 → decanterref03_Trim.l1 k u = some ⟨(dropR u.data.toList).toArray⟩
  | n, 0, u, _, h, _ => by omega
  | n, k + 1, u, hn, hk, hb => by
    rw [decanterref03_Trim.l1]
    by_cases h0 : 0 < u.size
    · obtain ⟨m, hm⟩ : ∃ m, u.size = m + 1 := ⟨u.size - 1, by omega⟩
      have e1 : wrap64 ((u.size : Int) - 1) = (m : Int) := by rw [wrap64_in _ (by omega)]; omega
      have hl : m < u.data.toList.length := by rw [size_list]; omega
      rw [if_pos (by omega), e1, if_pos (by omega), if_pos (by omega), bt_at u m hl, wrap64_in _ (by have := (u.data.toList[m]).toNat_lt; omega), ref_blank, Option.bind_some, Int.toNat_natCast]
      have hsp : u.data.toList = (u.extract 0 m).data.toList ++ [u.data.toList[m]] := by
        rw [Lib.extract_data, List.drop_zero, Nat.sub_zero, ← List.take_succ_eq_append_getElem hl, List.take_of_length_le (by rw [size_list]; omega)]
      have hd := class_Trim.dropR_at _ _ _ hsp
      cases hq : blank (u.data.toList[m]) with
      | true =>
        rw [if_pos rfl, if_pos (by omega)]
        have ih := ref_trim_r (n - 1) k (u.extract 0 m) (by rw [ByteArray.size_extract]; omega) (by omega) (by omega)
        rw [ih]
        refine congrArg some (congrArg (fun z : List UInt8 => (⟨z.toArray⟩ : ByteArray)) ?_)
        have hq' : class_Trim.blank (u.data.toList[m]) = true := hq
        rw [hq', if_pos rfl] at hd
        exact hd.symm
      | false =>
        rw [if_neg (by decide)]
        have hq' : class_Trim.blank (u.data.toList[m]) = false := hq
        rw [hq', if_neg (by decide)] at hd
        refine congrArg some (list_ext ?_)
        exact hd.symm
    · rw [if_neg (by omega)]
      have h1 : u.data.toList = [] := List.eq_nil_of_length_eq_zero (by rw [size_list]; omega)
      refine congrArg some (list_ext ?_)
      rw [h1]
      rfl
theorem ref_trim_l : ∀ n k (u : ByteArray), u.size ≤ n → n + 1010 ≤ k → n ≤ 1000 → decanterref03_Trim.l0 k u = some ⟨(dropR (dropL u.data.toList)).toArray⟩
  | n, 0, u, _, h, _ => by omega
  | n, k + 1, u, hn, hk, hb => by
    have hj : decanterref03_Trim.j1 k u = some ⟨(dropR u.data.toList).toArray⟩ := by
      obtain ⟨k', rfl⟩ : ∃ k', k = k' + 1 := ⟨k - 1, by omega⟩
      rw [decanterref03_Trim.j1]
      exact ref_trim_r n k' u hn (by omega) hb
    rw [decanterref03_Trim.l0]
    by_cases h0 : 0 < u.size
    · have hl : 0 < u.data.toList.length := by rw [size_list]; omega
      have hb0 := bt_at u 0 hl
      rw [show ((0 : Nat) : Int) = 0 from rfl] at hb0
      rw [if_pos (by omega), if_pos (by omega), hb0, wrap64_in _ (by have := (u.data.toList[0]).toNat_lt; omega), ref_blank, Option.bind_some]
      have hsp : u.data.toList = u.data.toList[0] :: (u.extract 1 u.size).data.toList := by
        rw [Lib.extract_to_end]
        have := List.drop_eq_getElem_cons hl
        rw [List.drop_zero] at this
        exact this
      have hd := class_Trim.dropL_at _ _ _ hsp
      cases hq : blank (u.data.toList[0]) with
      | true =>
        rw [if_pos rfl, if_pos (by omega)]
        have ih := ref_trim_l (n - 1) k (u.extract 1 u.size) (by rw [ByteArray.size_extract]; omega) (by omega) (by omega)
        rw [ih]
        have hq' : class_Trim.blank (u.data.toList[0]) = true := hq
        rw [hq', if_pos rfl] at hd
        exact congrArg some (congrArg (fun z : List UInt8 => (⟨(dropR z).toArray⟩ : ByteArray)) hd.symm)
      | false =>
        rw [if_neg (by decide), hj]
        have hq' : class_Trim.blank (u.data.toList[0]) = false := hq
        rw [hq', if_neg (by decide)] at hd
        exact congrArg some (congrArg (fun z : List UInt8 => (⟨(dropR z).toArray⟩ : ByteArray)) hd.symm)
    · rw [if_neg (by omega), hj]
      have h1 : u.data.toList = [] := List.eq_nil_of_length_eq_zero (by rw [size_list]; omega)
      rw [h1]
      rfl
theorem ref_trim (s : ByteArray) (hs : s.size ≤ 1000) (k : Nat) (hk : 2010 ≤ k) : decanterref03_Trim.f k s = some (trimB s) := by
  unfold decanterref03_Trim.f
  rw [ref_trim_l 1000 k s hs (by omega) (by omega), ← LR]
  rfl
/-! ### Name -/
abbrev okAt := class_Name.okAt
abbrev okAll := class_Name.okAll
def nameB (s : ByteArray) : Bool := decide (0 < s.size) && okAll 0 s.data.toList
theorem name_f (s : ByteArray) (h : s.size ≤ 1000) : class_Name.f s = some (nameB s) := by
  unfold class_Name.f
  rw [if_pos (by omega)]
  rfl
theorem ref_digit (z : Int) : decanterref03_Digit.f z = some (decide (48 ≤ z ∧ z ≤ 57)) := by
  unfold decanterref03_Digit.f
  by_cases h : 48 ≤ z
  · rw [if_pos h]
    refine congrArg some (decide_eq_decide.mpr ?_)
    omega
  · rw [if_neg h, decide_eq_false (fun hh => h hh.1)]
theorem ref_name_loop (s : ByteArray) (hs : s.size ≤ 1000) : ∀ n k i, i + n = s.size → n + 1 ≤ k → decanterref03_Name.l0 k s (i : Int) = some (okAll i (s.data.toList.drop i))
  | n, 0, i, _, h => by omega
  | 0, k + 1, i, hi, _ => by
    rw [decanterref03_Name.l0, if_neg (by omega), List.drop_of_length_le (by rw [size_list]; omega)]
    rfl
  | n + 1, k + 1, i, hi, hk => by
    have hl : i < s.data.toList.length := by rw [size_list]; omega
    have e1 : wrap64 ((i : Int) + 1) = ((i + 1 : Nat) : Int) := by rw [wrap64_in _ (by omega)]; omega
    have ih := ref_name_loop s hs n k (i + 1) (by omega) (by omega)
    have hd := class_Name.okAll_drop s.data.toList i i hl
    have hb := (s.data.toList[i]).toNat_lt
    rw [decanterref03_Name.l0, if_pos (by omega), if_pos (by omega), bt_at s i hl, e1, ih]
    show _ = some (class_Name.okAll i (s.data.toList.drop i))
    rw [hd]
    generalize s.data.toList[i] = b at hb
    rw [wrap64_in _ (by omega), ref_digit, Option.bind_some]
    by_cases a1 : 97 ≤ b.toNat ∧ b.toNat ≤ 122
    · rw [if_pos (by omega), if_pos (by omega), class_Name.ok_yes i b _ rfl (.inl a1), Bool.true_and]
    · have key : ∀ X : Bool, (if (i : Int) = 0 then some false else if decide (48 ≤ (b.toNat : Int) ∧ (b.toNat : Int) ≤ 57) = true then some X else if (b.toNat : Int) = 45 then some X else some false) = some (class_Name.okAt i b && X) := by
        intro X
        by_cases a2 : i = 0
        · rw [if_pos (by omega), class_Name.ok_no i b _ rfl ⟨a1, by omega⟩, Bool.false_and]
        · rw [if_neg (by omega)]
          by_cases a3 : 48 ≤ b.toNat ∧ b.toNat ≤ 57
          · rw [if_pos (decide_eq_true (by omega)), class_Name.ok_yes i b _ rfl (.inr ⟨by omega, .inl a3⟩), Bool.true_and]
          · rw [if_neg (by rw [decide_eq_true_eq]; omega)]
            by_cases a4 : b.toNat = 45
            · rw [if_pos (by omega), class_Name.ok_yes i b _ rfl (.inr ⟨by omega, .inr a4⟩), Bool.true_and]
            · rw [if_neg (by omega), class_Name.ok_no i b _ rfl ⟨a1, by omega⟩, Bool.false_and]
      by_cases a5 : (b.toNat : Int) ≥ 97
      · rw [if_pos a5, if_neg (by omega)]
        exact key _
      · rw [if_neg a5]
        exact key _
theorem ref_name (s : ByteArray) (hs : s.size ≤ 1000) (k : Nat) (hk : 1001 ≤ k) : decanterref03_Name.f k s = some (nameB s) := by
  unfold decanterref03_Name.f nameB
  by_cases h : s.size = 0
  · rw [if_pos (by omega), decide_eq_false (by omega), Bool.false_and]
  · have := ref_name_loop s hs s.size k 0 (by omega) (by omega)
    rw [show ((0 : Nat) : Int) = 0 from rfl, List.drop_zero] at this
    rw [if_neg (by omega), this, decide_eq_true (by omega), Bool.true_and]
theorem ok_later (b : UInt8) (i : Nat) (h : okAt 0 b = true) : okAt i b = true := by
  unfold okAt class_Name.okAt at *
  simp only [Nat.lt_irrefl, decide_false, Bool.false_and, Bool.or_false] at h
  rw [h, Bool.true_or]
theorem all_later : ∀ (l : List UInt8) (i j : Nat), (i = 0 ∨ 0 < j) → okAll i l = true → okAll j l = true
  | [], _, _, _, _ => rfl
  | b :: l, i, j, hij, h => by
    have h' : (class_Name.okAt i b && class_Name.okAll (i + 1) l) = true := h
    rw [Bool.and_eq_true] at h'
    show (class_Name.okAt j b && class_Name.okAll (j + 1) l) = true
    rw [Bool.and_eq_true]
    refine ⟨?_, all_later l (i + 1) (j + 1) (.inr (by omega)) h'.2⟩
    rcases hij with rfl | hj
    · exact ok_later b j h'.1
    · have h2 := h'.1
      unfold class_Name.okAt at h2 ⊢
      rw [decide_eq_true hj, Bool.true_and]
      simp only [Bool.or_eq_true, Bool.and_eq_true] at h2 ⊢
      exact h2.imp id (fun h => h.2)
theorem all_append : ∀ (l m : List UInt8) (i : Nat), okAll i (l ++ m) = (okAll i l && okAll (i + l.length) m)
  | [], m, i => by rw [List.nil_append, List.length_nil, Nat.add_zero]; exact (Bool.true_and _).symm
  | b :: l, m, i => by
    show (class_Name.okAt i b && class_Name.okAll (i + 1) (l ++ m)) = ((class_Name.okAt i b && class_Name.okAll (i + 1) l) && _)
    have := all_append l m (i + 1)
    rw [show class_Name.okAll (i + 1) (l ++ m) = _ from this, Bool.and_assoc, List.length_cons, show i + (l.length + 1) = i + 1 + l.length from by omega]
theorem ok_plain (b : UInt8) (i : Nat) (h : okAt i b = true) : class_Small.lowB b = b ∧ blank b = false := by
  have key : ∀ n : Fin 256, okAt 1 (UInt8.ofNat n.val) = true → class_Small.lowB (UInt8.ofNat n.val) = (UInt8.ofNat n.val) ∧ blank (UInt8.ofNat n.val) = false := by decide +kernel
  have key := key ⟨b.toNat, b.toNat_lt⟩
  rw [UInt8.ofNat_toNat] at key
  refine key ?_
  have h2 : class_Name.okAt i b = true := h
  show class_Name.okAt 1 b = true
  unfold class_Name.okAt at h2 ⊢
  simp only [Bool.or_eq_true, Bool.and_eq_true] at h2 ⊢
  exact h2.imp id (fun h => ⟨rfl, h.2⟩)
theorem all_plain : ∀ (l : List UInt8) (i : Nat), okAll i l = true → ∀ b ∈ l, class_Small.lowB b = b ∧ blank b = false
  | [], _, _, b, hb => by cases hb
  | c :: l, i, h, b, hb => by
    have h' : (class_Name.okAt i c && class_Name.okAll (i + 1) l) = true := h
    rw [Bool.and_eq_true] at h'
    rcases List.mem_cons.1 hb with rfl | hb
    · exact ok_plain b i h'.1
    · exact all_plain l (i + 1) h'.2 b hb
end Go.Proofs.YtinjbabmpnljoaaDoor.Pure
