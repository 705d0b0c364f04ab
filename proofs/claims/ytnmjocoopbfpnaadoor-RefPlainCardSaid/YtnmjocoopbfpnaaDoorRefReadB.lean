import Derived.Test.YtnmjocoopbfpnaaDoorRefModelB
namespace Go.Proofs.YtnmjocoopbfpnaaDoor.RefModelB
open Go.RowKit Go.Proofs.YtnmjocoopbfpnaaDoor.PRefA Go.Proofs.YtnmjocoopbfpnaaDoor.EntBaseR Go.Proofs.YtnmjocoopbfpnaaDoor.EntRefR Go.Proofs.YtnmjocoopbfpnaaDoor.CharPure Go.Proofs.YtnmjocoopbfpnaaDoorW.PrintWords Go.Proofs.YtnmjocoopbfpnaaDoorW.PrintLast Go.Proofs.YtnmjocoopbfpnaaDoorW.PrintMore

def toU (l : List Int) : List UInt8 := l.map fun n => UInt8.ofNat n.toNat
theorem str_list (l : List Int) : (strOfNums l).data.toList = toU l := rfl
theorem toU_len (l : List Int) : (toU l).length = l.length := List.length_map ..
theorem toU_take (l : List Int) (n : Nat) : toU (l.take n) = (toU l).take n := by unfold toU; rw [List.map_take]
theorem toU_app (a b : List Int) : toU (a ++ b) = toU a ++ toU b := by unfold toU; rw [List.map_append]
theorem ofL_data (b : ByteArray) : ofL b.data.toList = b := by
  cases b
  simp [ofL]
theorem ofL_list (l : List UInt8) : (ofL l).data.toList = l := by simp [ofL]
theorem ofL_size (l : List UInt8) : (ofL l).size = l.length := by
  rw [← size_list, ofL_list]
theorem best_take (l : List UInt8) (m : Nat) : ∀ n, n ≤ m → best (l.take m) n = best l n
  | 0, _ => rfl
  | n + 1, h => by
    rw [best, best, List.take_take, Nat.min_eq_left h, best_take l m n (by omega)]
/-- The longest name at the beginning of a row, and what it stands for. -/
def bst (r : List Int) : Nat × List UInt8 := best (toU r) (min r.length 8)
theorem bst_le (r : List Int) : (bst r).1 ≤ r.length ∧ (bst r).1 ≤ 8 := by
  have := best_le (toU r) (min r.length 8)
  unfold bst
  omega
def stop (c : Nat) : Bool := c == 61 || (lt c || dg c)
def nam (r : List Int) (at_ : Bool) : Option (List UInt8 × Nat) := if (bst r).1 = 0 then none else if at_ = true ∧ bn r ((bst r).1 - 1) ≠ 59 ∧ (bst r).1 < r.length ∧ stop (bn r (bst r).1) = true then none else some ((bst r).2, (bst r).1)
theorem prog_find (r : List Int) (k : Nat) (hk : 8 < k) : entity_Find.f k (strOfNums (r.take (min r.length 8))) = some (((bst r).1 : Int), ofL (bst r).2) := by
  rw [find_eq _ k hk, str_list, strOfNums_size, toU_take, List.length_take, show min (min (min r.length 8) r.length) 8 = min r.length 8 by omega, best_take _ _ _ (Nat.le_refl _)]
  rfl
theorem doc_find (r : List Int) (k : Nat) (hk : 106 ≤ k) : decanterref04_Find.f k (strOfNums r) = some (((bst r).1 : Int), ofL (bst r).2) := by
  rw [ref_find _ k hk, str_list, strOfNums_size]
  rfl
theorem stop_prog (c : Nat) (hc : c < 256) {α : Type} (a b : Option α) : (if wrap32 (c : Int) = 61 then a else (class_Letter.f (wrap32 (c : Int))).bind fun t => if t = true then a else (class_Digit.f (wrap32 (c : Int))).bind fun t => if t = true then a else b) = if stop c = true then a else b := by
  obtain ⟨-, -, -, h4, h5, -, -, h8, -⟩ := chars c hc
  rw [h4, h5, h8]
  unfold stop
  simp only [Option.bind_some]
  by_cases e : c = 61
  · rw [if_pos (by omega), e]
    rfl
  · rw [if_neg (by omega), beq_eq_false_iff_ne.2 e, Bool.false_or]
    cases lt c <;> cases dg c <;> rfl
theorem stop_doc (c : Nat) (hc : c < 256) {α : Type} (a b : Option α) : (if wrap64 (c : Int) = 61 then a else (decanterref03_Letter.f (wrap64 (c : Int))).bind fun t => if t = true then a else (decanterref03_Digit.f (wrap64 (c : Int))).bind fun t => if t = true then a else b) = if stop c = true then a else b := by
  obtain ⟨-, -, -, -, -, h6, h7, -, -⟩ := chars c hc
  rw [h6, h7, w64 (c : Int) (by omega) (by omega)]
  unfold stop
  simp only [Option.bind_some]
  by_cases e : c = 61
  · rw [if_pos (by omega), e]
    rfl
  · rw [if_neg (by omega), beq_eq_false_iff_ne.2 e, Bool.false_or]
    cases lt c <;> cases dg c <;> rfl
theorem name_eq (r : List Int) (hb : Bytes r) (at_ : Bool) (k : Nat) (hk : 10 ≤ k) : (nam r at_ = none → ∃ x, ref_name.f k r at_ = some (x, 0)) ∧ ∀ t n, nam r at_ = some (t, n) → ref_name.f k r at_ = some (ofL t, (n : Int)) := by
  obtain ⟨k, rfl⟩ : ∃ k', k = k' + 1 := ⟨k - 1, by omega⟩
  have hle := bst_le r
  have e : mn (r.length : Int) 8 = ((min r.length 8 : Nat) : Int) := by
    unfold mn
    split <;> omega
  have hf : ref_name.f (k + 1) r at_ = if ((bst r).1 : Int) = 0 then ref_name.j0 (k + 1) r ((bst r).1 : Int) (ofL (bst r).2) true else if at_ = true then (if 0 ≤ wrap64 (((bst r).1 : Int) - 1) then (if wrap64 (((bst r).1 : Int) - 1) < (r.length : Int) then (if rd r (wrap64 (((bst r).1 : Int) - 1)) = 59 then ref_name.j0 (k + 1) r ((bst r).1 : Int) (ofL (bst r).2) true else ref_name.j0 (k + 1) r ((bst r).1 : Int) (ofL (bst r).2) (((bst r).1 : Int) == (r.length : Int))) else none) else none) else ref_name.j0 (k + 1) r ((bst r).1 : Int) (ofL (bst r).2) true := by
    unfold ref_name.f
    rw [e, if_pos (by omega), if_pos (by omega), Int.toNat_natCast, prog_find r (k + 1) (by omega), Option.bind_some]
  have hj : ref_name.j0 (k + 1) r ((bst r).1 : Int) (ofL (bst r).2) true = some (ofL (bst r).2, ((bst r).1 : Int)) := by rw [ref_name.j0, if_pos rfl]
  unfold nam
  by_cases h0 : (bst r).1 = 0
  · rw [if_pos h0]
    rw [if_pos (by omega), hj] at hf
    exact ⟨fun _ => ⟨_, by rw [hf, h0]; rfl⟩, fun t n h => (by cases h)⟩
  · rw [if_neg h0]
    rw [if_neg (by omega)] at hf
    cases at_ with
    | false =>
      rw [if_neg (by decide), hj] at hf
      rw [if_neg (by simp)]
      exact ⟨fun h => (by cases h), fun t n h => by
        obtain ⟨rfl, rfl⟩ := Prod.mk.inj (Option.some.inj h)
        exact hf⟩
    | true =>
      rw [if_pos rfl, w64 _ (by omega) (by omega), if_pos (by omega), if_pos (by omega), show ((bst r).1 : Int) - 1 = (((bst r).1 - 1 : Nat) : Int) by omega, rd_bn hb] at hf
      by_cases h1 : bn r ((bst r).1 - 1) = 59
      · rw [if_pos (by omega), hj] at hf
        rw [if_neg (fun h => h.2.1 h1)]
        exact ⟨fun h => (by cases h), fun t n h => by
          obtain ⟨rfl, rfl⟩ := Prod.mk.inj (Option.some.inj h)
          exact hf⟩
      · rw [if_neg (by omega)] at hf
        by_cases h2 : (bst r).1 < r.length
        · have hj2 : ref_name.j0 (k + 1) r ((bst r).1 : Int) (ofL (bst r).2) false = if stop (bn r (bst r).1) = true then some (⟨#[]⟩, 0) else some (ofL (bst r).2, ((bst r).1 : Int)) := by
            rw [ref_name.j0, if_neg (by decide), if_pos (by omega), if_pos (by omega), rd_bn hb]
            exact stop_prog _ (bn_lt hb _) _ _
          rw [beq_eq_false_iff_ne.2 (by omega), hj2] at hf
          by_cases h3 : stop (bn r (bst r).1) = true
          · rw [if_pos h3] at hf
            rw [if_pos ⟨rfl, h1, h2, h3⟩]
            exact ⟨fun _ => ⟨_, hf⟩, fun t n h => (by cases h)⟩
          · rw [if_neg h3] at hf
            rw [if_neg (fun h => h3 h.2.2.2)]
            exact ⟨fun h => (by cases h), fun t n h => by
              obtain ⟨rfl, rfl⟩ := Prod.mk.inj (Option.some.inj h)
              exact hf⟩
        · rw [beq_iff_eq.2 (by omega), hj] at hf
          rw [if_neg (fun h => h2 h.2.2.1)]
          exact ⟨fun h => (by cases h), fun t n h => by
            obtain ⟨rfl, rfl⟩ := Prod.mk.inj (Option.some.inj h)
            exact hf⟩
theorem nam_le (r : List Int) (at_ : Bool) (t : List UInt8) (n : Nat) (h : nam r at_ = some (t, n)) : 0 < n ∧ n ≤ r.length ∧ n ≤ 8 ∧ bst r = (n, t) := by
  have hle := bst_le r
  unfold nam at h
  split at h
  · cases h
  · split at h
    · cases h
    · obtain ⟨rfl, rfl⟩ := Prod.mk.inj (Option.some.inj h)
      exact ⟨by omega, by omega, by omega, rfl⟩
/-- What a reference at a place stands for, and where it ends. -/
def rdm (l : List Int) (p : Nat) (at_ : Bool) : Option (List UInt8 × Nat) :=
  if p < l.length ∧ bn l p = 38 then (if bn l (p + 1) = 35 then (num (l.drop (p + 2))).map fun ce => (runeB (ce.1 : Int), p + 2 + ce.2) else (nam (l.drop (p + 1)) at_).map fun te => (te.1, p + 1 + te.2)) else none
def rdI (l : List Int) (a : Int) (at_ : Bool) : Option (List UInt8 × Nat) := if 0 ≤ a ∧ a < (l.length : Int) then rdm l a.toNat at_ else none
theorem rdm_in (l : List Int) (p : Nat) (at_ : Bool) (hp : p < l.length) (h38 : bn l p = 38) : rdm l p at_ = if bn l (p + 1) = 35 then (num (l.drop (p + 2))).map fun ce => (runeB (ce.1 : Int), p + 2 + ce.2) else (nam (l.drop (p + 1)) at_).map fun te => (te.1, p + 1 + te.2) := by
  unfold rdm
  rw [if_pos ⟨hp, h38⟩]
theorem enc_ofL (c : Nat) : Go.Utf8.encode (c : Int) = ofL (runeB (c : Int)) := by
  rw [← encode_rune, ofL_data]
theorem rdm_le (l : List Int) (p : Nat) (at_ : Bool) (t : List UInt8) (e : Nat) (h : rdm l p at_ = some (t, e)) : p + 3 ≤ e ∨ p + 2 ≤ e ∧ bn l (p + 1) ≠ 35 := by
  unfold rdm at h
  split at h
  · split at h
    · obtain ⟨⟨c, e'⟩, hn, he⟩ := Option.map_eq_some_iff.1 h
      obtain ⟨-, rfl⟩ := Prod.mk.inj he
      have := num_le _ _ _ hn
      dsimp only
      omega
    · rename_i h35
      obtain ⟨⟨c, e'⟩, hn, he⟩ := Option.map_eq_some_iff.1 h
      obtain ⟨-, rfl⟩ := Prod.mk.inj he
      have := nam_le _ _ _ _ hn
      dsimp only
      omega
  · cases h
theorem rdm_end (l : List Int) (p : Nat) (at_ : Bool) (t : List UInt8) (e : Nat) (h : rdm l p at_ = some (t, e)) : p < e ∧ e ≤ l.length := by
  have h0 := rdm_le l p at_ t e h
  refine ⟨by omega, ?_⟩
  unfold rdm at h
  split at h
  · split at h
    · obtain ⟨⟨c, e'⟩, hn, he⟩ := Option.map_eq_some_iff.1 h
      obtain ⟨-, rfl⟩ := Prod.mk.inj he
      have := num_le _ _ _ hn
      rw [List.length_drop] at this
      dsimp only
      omega
    · obtain ⟨⟨c, e'⟩, hn, he⟩ := Option.map_eq_some_iff.1 h
      obtain ⟨-, rfl⟩ := Prod.mk.inj he
      have := nam_le _ _ _ _ hn
      rw [List.length_drop] at this
      dsimp only
      omega
  · cases h
def pres : Option (List UInt8 × Nat) → ByteArray × Int × Bool
  | none => (⟨#[]⟩, 0, false)
  | some (t, e) => (ofL t, (e : Int), true)
def dres : Option (List UInt8 × Nat) → ByteArray × Int
  | none => (⟨#[]⟩, -1)
  | some (t, e) => (ofL t, (e : Int))
theorem read_j1 (l : List Int) (hb : Bytes l) (hl : l.length ≤ 3000) (p : Nat) (hp : p < l.length) (at_ : Bool) (h38 : bn l p = 38) (k : Nat) (hk : 3020 ≤ k) : ref_Read.j1 (k + 1) (p : Int) at_ (l.drop (p + 1)) 1 (bn l (p + 1) == 35) = some (pres (rdm l p at_)) := by
  have hlen : (l.drop (p + 1)).length = l.length - (p + 1) := List.length_drop ..
  rw [ref_Read.j1, rdm_in l p at_ hp h38]
  by_cases h35 : bn l (p + 1) = 35
  · rw [if_pos (beq_iff_eq.2 h35), if_pos h35]
    have hp2 : p + 1 < l.length := by
      by_cases q : p + 1 < l.length
      · exact q
      · rw [bn_out l _ (by omega)] at h35
        cases h35
    rw [if_pos (by omega), List.drop_drop, number_eq _ (bytes_drop hb _) (by rw [List.length_drop]; omega) k (by omega), Option.bind_some]
    cases hn : num (l.drop (p + 1 + 1)) with
    | none => rfl
    | some ce =>
      obtain ⟨c, e⟩ := ce
      have hle := num_le _ _ _ hn
      rw [List.length_drop] at hle
      dsimp only
      rw [if_neg (by omega), w64 ((p : Int) + 2) (by omega) (by omega), w64 _ (by omega) (by omega), enc_ofL]
      rfl
  · rw [if_neg (by rw [beq_iff_eq]; exact h35), if_neg h35]
    have hn := name_eq (l.drop (p + 1)) (bytes_drop hb _) at_ k (by omega)
    cases hv : nam (l.drop (p + 1)) at_ with
    | none =>
      obtain ⟨x, hx⟩ := hn.1 hv
      rw [hx, Option.bind_some, if_pos rfl]
      rfl
    | some te =>
      obtain ⟨t, e⟩ := te
      have hle := nam_le _ _ _ _ hv
      rw [List.length_drop] at hle
      rw [hn.2 t e hv, Option.bind_some]
      dsimp only
      rw [if_neg (by omega), w64 ((p : Int) + 1) (by omega) (by omega), w64 _ (by omega) (by omega)]
      rfl
theorem read_eq (l : List Int) (hb : Bytes l) (hl : l.length ≤ 3000) (a : Int) (at_ : Bool) (k : Nat) (hk : 3030 ≤ k) : ref_Read.f k l a at_ = some (pres (rdI l a at_)) := by
  obtain ⟨k, rfl⟩ : ∃ k', k = k' + 2 := ⟨k - 2, by omega⟩
  have hj : ref_Read.j0 (k + 2) l a at_ true = some (⟨#[]⟩, 0, false) := by rw [ref_Read.j0, if_pos rfl]
  unfold ref_Read.f rdI
  by_cases h1 : a < 0
  · rw [if_pos h1, hj, if_neg (by omega)]
    rfl
  · by_cases h2 : a ≥ (l.length : Int)
    · rw [if_neg h1, if_pos h2, hj, if_neg (by omega)]
      rfl
    · rw [if_neg h1, if_neg h2, if_pos (by omega), if_pos (by omega), if_pos (by omega)]
      obtain ⟨p, rfl⟩ : ∃ p : Nat, a = (p : Int) := ⟨a.toNat, by omega⟩
      rw [Int.toNat_natCast, rd_bn hb]
      by_cases h38 : bn l p = 38
      · rw [h38, ref_Read.j0, if_neg (by decide), w64 _ (by omega) (by omega), if_pos (by omega), if_pos (by omega), show ((p : Int) + 1).toNat = p + 1 by omega]
        have hq := read_j1 l hb hl p (by omega) at_ h38 k (by omega)
        have hlen : (l.drop (p + 1)).length = l.length - (p + 1) := List.length_drop ..
        by_cases h3 : p + 1 < l.length
        · rw [if_pos (by omega), if_pos (by omega)]
          have e0 : rd (l.drop (p + 1)) 0 = (bn l (p + 1) : Int) := by
            have := rd_bn (bytes_drop hb (p + 1)) 0
            rw [bn_drop] at this
            exact this
          rw [e0, show (((bn l (p + 1) : Nat) : Int) == 35) = (bn l (p + 1) == 35) by
            by_cases q : bn l (p + 1) = 35
            · rw [q]; rfl
            · rw [beq_eq_false_iff_ne.2 q]
              exact beq_eq_false_iff_ne.2 (by omega)]
          exact hq
        · rw [if_neg (by omega)]
          rw [bn_out l (p + 1) (by omega)] at hq
          exact hq
      · rw [bne_iff_ne.2 (show ((bn l p : Nat) : Int) ≠ 38 by omega), hj]
        unfold rdm
        rw [if_neg (fun h => h38 h.2)]
        rfl
theorem doc_j1 (l : List Int) (hb : Bytes l) (hl : l.length ≤ 3000) (p : Nat) (hp : p < l.length) (at_ : Bool) (h38 : bn l p = 38) (k : Nat) (hk : 6020 ≤ k) : decanterref05_Read.j1 (k + 2) l (p : Int) at_ (bn l (p + 1) == 35) = some (dres (rdm l p at_)) := by
  rw [decanterref05_Read.j1, rdm_in l p at_ hp h38]
  by_cases h35 : bn l (p + 1) = 35
  · rw [if_pos (beq_iff_eq.2 h35), if_pos h35]
    have hp2 : p + 1 < l.length := by
      by_cases q : p + 1 < l.length
      · exact q
      · rw [bn_out l _ (by omega)] at h35
        cases h35
    rw [w64 ((p : Int) + 2) (by omega) (by omega), show ((p : Int) + 2) = ((p + 2 : Nat) : Int) by omega, by_eq l hb hl (p + 2) (by omega) (k + 1) (by omega), Option.bind_some]
    cases hn : num (l.drop (p + 2)) with
    | none => rfl
    | some ce =>
      obtain ⟨c, e⟩ := ce
      have hpn : ∃ v, c = pn v := by
        unfold num at hn
        split at hn
        · cases hn
        · split at hn <;> exact ⟨_, (Prod.mk.inj (Option.some.inj hn)).1.symm⟩
      obtain ⟨v, rfl⟩ := hpn
      obtain ⟨u, hu, hm, -⟩ := ref_utf (pn v) (pn_eq v).2
      dsimp only
      rw [if_neg (by omega), hu, Option.bind_some]
      have : strOfNums u = ofL (runeB (pn v : Int)) := by
        rw [← ofL_data (strOfNums u), ← hm]
        rfl
      rw [this]
      rfl
  · rw [if_neg (by rw [beq_iff_eq]; exact h35), if_neg h35]
    have hle := bst_le (l.drop (p + 1))
    have hlen : (l.drop (p + 1)).length = l.length - (p + 1) := List.length_drop ..
    rw [w64 ((p : Int) + 1) (by omega) (by omega), if_pos (by omega), if_pos (by omega), show ((p : Int) + 1).toNat = p + 1 by omega, doc_find _ (k + 1) (by omega), Option.bind_some]
    unfold nam
    dsimp only
    have hbn : ∀ j, bn (l.drop (p + 1)) j = bn l (p + 1 + j) := fun j => bn_drop l (p + 1) j
    rw [hbn, hbn]
    generalize bst (l.drop (p + 1)) = b at *
    by_cases h0 : b.1 = 0
    · rw [if_pos (by omega), if_pos h0]
      rfl
    · rw [if_neg (by omega), if_neg h0, w64 ((p : Int) + 1 + (b.1 : Int)) (by omega) (by omega)]
      have hf : decanterref05_Read.j2 (k + 1) l (ofL b.2) ((p : Int) + 1 + (b.1 : Int)) false = some (ofL b.2, ((p + 1 + b.1 : Nat) : Int)) := by
        rw [decanterref05_Read.j2, if_neg (by decide)]
        rfl
      cases at_ with
      | false =>
        rw [if_neg (by decide), hf, if_neg (by simp)]
        rfl
      | true =>
        rw [if_pos rfl, w64 _ (by omega) (by omega), if_pos (by omega), if_pos (by omega), show ((p : Int) + 1 + (b.1 : Int) - 1) = ((p + 1 + (b.1 - 1) : Nat) : Int) by omega, rd_bn hb]
        by_cases h1 : bn l (p + 1 + (b.1 - 1)) = 59
        · rw [if_pos (by omega), hf, if_neg (fun h => h.2.1 h1)]
          rfl
        · rw [if_neg (by omega)]
          by_cases h2 : p + 1 + b.1 < l.length
          · rw [decide_eq_true (by omega), decanterref05_Read.j2, if_pos rfl, if_pos (by omega), if_pos (by omega), show ((p : Int) + 1 + (b.1 : Int)) = ((p + 1 + b.1 : Nat) : Int) by omega, rd_bn hb, stop_doc _ (bn_lt hb _)]
            by_cases h3 : stop (bn l (p + 1 + b.1)) = true
            · rw [if_pos h3, if_pos ⟨rfl, h1, by omega, h3⟩]
              rfl
            · rw [if_neg h3, if_neg (fun h => h3 h.2.2.2)]
              rfl
          · rw [decide_eq_false (by omega), hf, if_neg (fun h => h2 (by have := h.2.2.1; omega))]
            rfl
theorem doc_eq (l : List Int) (hb : Bytes l) (hl : l.length ≤ 3000) (a : Int) (at_ : Bool) (k : Nat) (hk : 6030 ≤ k) : decanterref05_Read.f k l a at_ = some (dres (rdI l a at_)) := by
  obtain ⟨k, rfl⟩ : ∃ k', k = k' + 3 := ⟨k - 3, by omega⟩
  have hj : decanterref05_Read.j0 (k + 3) l a at_ true = some (⟨#[]⟩, -1) := by rw [decanterref05_Read.j0, if_pos rfl]
  unfold decanterref05_Read.f rdI
  by_cases h1 : a < 0
  · rw [if_pos h1, hj, if_neg (by omega)]
    rfl
  · by_cases h2 : a ≥ (l.length : Int)
    · rw [if_neg h1, if_pos h2, hj, if_neg (by omega)]
      rfl
    · rw [if_neg h1, if_neg h2, if_pos (by omega), if_pos (by omega), if_pos (by omega)]
      obtain ⟨p, rfl⟩ : ∃ p : Nat, a = (p : Int) := ⟨a.toNat, by omega⟩
      rw [Int.toNat_natCast, rd_bn hb]
      by_cases h38 : bn l p = 38
      · rw [h38, decanterref05_Read.j0, if_neg (by decide), w64 _ (by omega) (by omega)]
        have hq := doc_j1 l hb hl p (by omega) at_ h38 k (by omega)
        by_cases h3 : p + 1 < l.length
        · rw [if_pos (by omega), if_pos (by omega), show ((p : Int) + 1) = ((p + 1 : Nat) : Int) by omega, rd_bn hb, show (((bn l (p + 1) : Nat) : Int) == 35) = (bn l (p + 1) == 35) by
            by_cases q : bn l (p + 1) = 35
            · rw [q]; rfl
            · rw [beq_eq_false_iff_ne.2 q]
              exact beq_eq_false_iff_ne.2 (by omega)]
          exact hq
        · rw [if_neg (by omega)]
          rw [bn_out l (p + 1) (by omega)] at hq
          exact hq
      · rw [bne_iff_ne.2 (show ((bn l p : Nat) : Int) ≠ 38 by omega), hj]
        unfold rdm
        rw [if_neg (fun h => h38 h.2)]
        rfl
end Go.Proofs.YtnmjocoopbfpnaaDoor.RefModelB
