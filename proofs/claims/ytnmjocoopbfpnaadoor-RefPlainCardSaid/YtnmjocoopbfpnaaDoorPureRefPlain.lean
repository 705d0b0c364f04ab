import Derived.Test.YtnmjocoopbfpnaaDoorPlainWalk
import Derived.Test.YtnmjocoopbfpnaaDoorRefTxtB
import Derived.Test.YtnmjocoopbfpnaaDoorRefStayB
import Derived.Test.YtnmjocoopbfpnaaDoorCharAllB
namespace Go.Proofs.YtnmjocoopbfpnaaDoor.Pure
open Go.RowKit Go.Lib Go.Proofs.YtnmjocoopbfpnaaDoor.PRefA Go.Proofs.YtnmjocoopbfpnaaDoor.EntBaseR Go.Proofs.YtnmjocoopbfpnaaDoor.EntRefR Go.Proofs.YtnmjocoopbfpnaaDoor.RefModelB Go.Proofs.YtnmjocoopbfpnaaDoor.CharPure Go.Proofs.YtnmjocoopbfpnaaDoorW.PrintWords Go.Proofs.YtnmjocoopbfpnaaDoorW.PrintLast Go.Proofs.YtnmjocoopbfpnaaDoorW.PrintMore
open decanterlaw05_RefPlain renaming written → wr, plain → pl, esc → es

/-- Bytes without & : their text is what their characters are. -/
theorem txt_plain (l : List Int) (hb : Bytes l) (h : ∀ p, p < l.length → bn l p ≠ 38) (at_ : Bool) : ∀ d p, l.length ≤ p + d → txt d l p at_ = allB l p (l.length : Int)
  | 0, p, hd => by
    rw [txt, allB_nil l p _ (.inl (by omega))]
  | d + 1, p, hd => by
    rw [txt]
    by_cases hp : p < l.length
    · have hr : rdm l p at_ = none := by
        unfold rdm
        rw [if_neg fun q => h p hp q.2]
      have hf := nx_facts l hb p hp
      rw [if_pos hp, hr, allB_cons l hb p _ (by omega) hp, txt_plain l hb h at_ d (p + (nx l p).2) (by omega)]
    · rw [if_neg hp, allB_nil l p _ (.inl (by omega))]
set_option maxRecDepth 100000 in
set_option maxHeartbeats 4000000 in
theorem decode_stop (n m b0 b1 b2 b3 c1 c2 c3 : Nat) (e1 : b1 = c1) (e2 : b1 ≠ 38 → b2 = c2) (e3 : b1 ≠ 38 → b2 ≠ 38 → b3 = c3) (n1 : b1 ≠ 0 → 1 < n) (n2 : b2 ≠ 0 → 2 < n) (n3 : b3 ≠ 0 → 3 < n) (m1 : c1 ≠ 0 → 1 < m) (m2 : c2 ≠ 0 → 2 < m) (m3 : c3 ≠ 0 → 3 < m) : decodeN n b0 b1 b2 b3 = decodeN m b0 c1 c2 c3 := by
  subst e1
  by_cases h1 : b1 = 38
  · subst h1
    unfold decodeN
    repeat' split
    all_goals first | rfl | (exfalso; omega)
  · obtain rfl := e2 h1
    by_cases h2 : b2 = 38
    · subst h2
      unfold decodeN
      repeat' split
      all_goals first | rfl | (exfalso; omega)
    · obtain rfl := e3 h1 h2
      unfold decodeN
      repeat' split
      all_goals first | rfl | (exfalso; omega)
set_option maxRecDepth 100000 in
theorem decode_bytes (n b0 b1 b2 b3 : Nat) : (1 < (decodeN n b0 b1 b2 b3).2 → 128 ≤ b1) ∧ (2 < (decodeN n b0 b1 b2 b3).2 → 128 ≤ b2) ∧ (3 < (decodeN n b0 b1 b2 b3).2 → 128 ≤ b3) := by
  unfold decodeN
  repeat' split
  all_goals
    dsimp only
    omega
theorem nx_bytes (l : List Int) (p j : Nat) (h1 : 1 ≤ j) (hj : j < (nx l p).2) (hf : (nx l p).2 ≤ 4) : bn l (p + j) ≠ 38 := by
  unfold nx at hj hf
  split at hj
  · dsimp only at hj
    omega
  · split at hj
    · split at hj
      · rename_i h
        obtain rfl : j = 1 := by
          dsimp only at hj
          omega
        omega
      · dsimp only at hj
        omega
    · rename_i h0 h13
      rw [if_neg h0, if_neg h13] at hf
      have hd := decode_bytes (l.length - p) (bn l p) (bn l (p + 1)) (bn l (p + 2)) (bn l (p + 3))
      generalize decodeN (l.length - p) (bn l p) (bn l (p + 1)) (bn l (p + 2)) (bn l (p + 3)) = d at *
      rcases (show j = 1 ∨ j = 2 ∨ j = 3 by omega) with rfl | rfl | rfl
      · have := hd.1 (by omega); omega
      · have := hd.2.1 (by omega); omega
      · have := hd.2.2 (by omega); omega
theorem written_app (a b : List Int) : wr (a ++ b) = wr a ++ wr b := List.flatMap_append
theorem written_split (l : List Int) (p : Nat) : wr l = wr (l.take p) ++ wr (l.drop p) := by
  rw [← written_app, List.take_append_drop]
/-- Where a byte lies in what is wr. -/
def pos (l : List Int) (p : Nat) : Nat := (wr (l.take p)).length
theorem written_drop (l : List Int) (p : Nat) : (wr l).drop (pos l p) = wr (l.drop p) := by
  rw [written_split l p]
  exact List.drop_left
theorem bn_written (l : List Int) (p j : Nat) : bn (wr l) (pos l p + j) = bn (wr (l.drop p)) j := by
  rw [← written_drop, bn_drop]
theorem agree : ∀ (j : Nat) (m : List Int), (∀ i, i < j → bn m i ≠ 38) → bn (wr m) j = bn m j
  | _, [], _ => rfl
  | 0, c :: r, _ => by
    by_cases h : c = 38
    · subst h; rfl
    · show bn (es c ++ wr r) 0 = c.toNat
      unfold es
      rw [if_neg h]
      rfl
  | j + 1, c :: r, hj => by
    by_cases h : c = 38
    · subst h
      exact absurd rfl (hj 0 (by omega))
    · show bn (es c ++ wr r) (j + 1) = _
      unfold es
      rw [if_neg h]
      exact agree j r fun i hi => hj (i + 1) (by omega)
theorem bn_same (l : List Int) (p j : Nat) (h : ∀ i, i < j → bn l (p + i) ≠ 38) : bn (wr l) (pos l p + j) = bn l (p + j) := by
  rw [bn_written, agree j (l.drop p) (fun i hi => by rw [bn_drop]; exact h i hi), bn_drop]
theorem pos_next (l : List Int) (hb : Bytes l) (p : Nat) (hp : p < l.length) (h : bn l p ≠ 38) : pos l (p + 1) = pos l p + 1 := by
  have hr := rd_bn hb p
  unfold pos
  rw [decanterlaw05_RefPlain.written_next l p hp, List.length_append]
  unfold es
  rw [if_neg (by omega)]
  rfl
theorem pos_amp (l : List Int) (hb : Bytes l) (p : Nat) (hp : p < l.length) (h : bn l p = 38) : pos l (p + 1) = pos l p + 5 := by
  have hr := rd_bn hb p
  unfold pos
  rw [decanterlaw05_RefPlain.written_next l p hp, List.length_append]
  unfold es
  rw [if_pos (by omega)]
  rfl
theorem pos_add (l : List Int) (hb : Bytes l) (p : Nat) : ∀ n, p + n ≤ l.length → (∀ j, j < n → bn l (p + j) ≠ 38) → pos l (p + n) = pos l p + n
  | 0, _, _ => rfl
  | n + 1, h, hn => by
    rw [← Nat.add_assoc, pos_next l hb (p + n) (by omega) (hn n (by omega)), pos_add l hb p n (by omega) (fun j hj => hn j (by omega)), Nat.add_assoc]
theorem pos_end (l : List Int) (p : Nat) (h : l.length ≤ p) : pos l p = (wr l).length := by
  unfold pos
  rw [List.take_of_length_le h]
theorem pos_lt (l : List Int) (p : Nat) (hp : p < l.length) : pos l p < (wr l).length := by
  have h := congrArg List.length (written_split l p)
  rw [List.length_append] at h
  have h1 : 0 < (wr (l.drop p)).length := by
    rw [List.drop_eq_getElem_cons hp]
    show 0 < (es _ ++ _).length
    rw [List.length_append]
    have : 0 < (es l[p]).length := by
      unfold es
      split <;> simp
    omega
  show (wr (l.take p)).length < _
  omega
theorem written_bytes (l : List Int) (hb : Bytes l) : Bytes (wr l) := by
  intro x hx
  obtain ⟨c, hc, hx⟩ := List.mem_flatMap.1 hx
  unfold es at hx
  split at hx
  · simp at hx
    omega
  · obtain rfl : x = c := by simpa using hx
    exact hb x hc
theorem bn_pos (l : List Int) (p : Nat) (h : bn l p ≠ 0) : p < l.length := by
  by_cases q : p < l.length
  · exact q
  · exact absurd (bn_out l p (by omega)) h
theorem nx_written (l : List Int) (p : Nat) (h : bn l p ≠ 38) : nx (wr l) (pos l p) = nx l p := by
  have h0 : bn (wr l) (pos l p) = bn l p := bn_same l p 0 (fun i hi => by omega)
  have h1 : bn (wr l) (pos l p + 1) = bn l (p + 1) := bn_same l p 1 (fun i hi => by
    obtain rfl : i = 0 := by omega
    exact h)
  have h2 : bn l (p + 1) ≠ 38 → bn (wr l) (pos l p + 2) = bn l (p + 2) := fun q => bn_same l p 2 (fun i hi => by
    rcases (show i = 0 ∨ i = 1 by omega) with rfl | rfl
    · exact h
    · exact q)
  have h3 : bn l (p + 1) ≠ 38 → bn l (p + 2) ≠ 38 → bn (wr l) (pos l p + 3) = bn l (p + 3) := fun q q2 => bn_same l p 3 (fun i hi => by
    rcases (show i = 0 ∨ i = 1 ∨ i = 2 by omega) with rfl | rfl | rfl
    · exact h
    · exact q
    · exact q2)
  have lw := fun j => bn_pos (wr l) (pos l p + j)
  have ll := fun j => bn_pos l (p + j)
  unfold nx
  rw [h0, h1]
  by_cases c0 : bn l p = 0
  · rw [if_pos c0, if_pos c0]
  · rw [if_neg c0, if_neg c0]
    by_cases c13 : bn l p = 13
    · rw [if_pos c13, if_pos c13]
      by_cases c10 : bn l (p + 1) = 10
      · rw [if_pos ⟨by have := lw 1 (by omega); omega, c10⟩, if_pos ⟨by have := ll 1 (by omega); omega, c10⟩]
      · rw [if_neg fun q => c10 q.2, if_neg fun q => c10 q.2]
    · rw [if_neg c13, if_neg c13]
      exact decode_stop _ _ _ _ _ _ _ _ _ rfl h2 (fun q1 q2 => h3 q1 (by rw [← h2 q1]; exact q2)) (fun q => by have := lw 1 (by rw [h1]; exact q); omega) (fun q => by have := lw 2 q; omega) (fun q => by have := lw 3 q; omega) (fun q => by have := ll 1 q; omega) (fun q => by have := ll 2 q; omega) (fun q => by have := ll 3 q; omega)
theorem nam_amp (at_ : Bool) (c : List Int) : nam ([97, 109, 112, 59] ++ c) at_ = some ([38], 4) := by
  have h : nam [97, 109, 112, 59] at_ = some ([38], 4) := by cases at_ <;> kernel_rfl
  exact nam_stay [97, 109, 112, 59] c at_ [38] 4 h (by rfl)
theorem rdm_amp (l : List Int) (p : Nat) (hp : p < l.length) (hb : Bytes l) (h : bn l p = 38) (at_ : Bool) : rdm (wr l) (pos l p) at_ = some ([38], pos l p + 5) := by
  have hlt := pos_lt l p hp
  have hr := rd_bn hb p
  have hd : (wr l).drop (pos l p) = [38, 97, 109, 112, 59] ++ wr (l.drop (p + 1)) := by
    rw [written_drop, List.drop_eq_getElem_cons hp]
    show es l[p] ++ _ = _
    have : l[p] = 38 := by
      unfold rd at hr
      rw [Int.toNat_natCast, List.getD_eq_getElem?_getD, List.getElem?_eq_getElem hp, Option.getD_some] at hr
      omega
    rw [this]
    rfl
  have hb0 : bn (wr l) (pos l p) = 38 := by
    have := bn_drop (wr l) (pos l p) 0
    rw [hd] at this
    exact this.symm
  have hb1 : bn (wr l) (pos l p + 1) = 97 := by
    have := bn_drop (wr l) (pos l p) 1
    rw [hd] at this
    exact this.symm
  rw [rdm_in _ _ _ hlt hb0, if_neg (by omega)]
  have hd1 : (wr l).drop (pos l p + 1) = [97, 109, 112, 59] ++ wr (l.drop (p + 1)) := by
    rw [← List.drop_drop, hd]
    rfl
  rw [hd1, nam_amp, Option.map_some]
  exact congrArg some (Prod.ext rfl (by show pos l p + 1 + 4 = pos l p + 5; omega))
theorem txt_written (l : List Int) (hb : Bytes l) (at_ : Bool) : ∀ d p D, l.length ≤ p + d → p ≤ l.length → (wr l).length ≤ pos l p + D → txt D (wr l) (pos l p) at_ = allB l p (l.length : Int)
  | 0, p, D, hd, hp, hD => by
    obtain rfl : p = l.length := by omega
    rw [allB_nil l _ _ (.inl (Int.le_refl _))]
    cases D with
    | zero => rfl
    | succ D => rw [txt, if_neg (by rw [pos_end l _ (Nat.le_refl _)]; omega)]
  | d + 1, p, D, hd, hp, hD => by
    by_cases h : p < l.length
    · have hlt := pos_lt l p h
      obtain ⟨D, rfl⟩ : ∃ D', D = D' + 1 := ⟨D - 1, by omega⟩
      rw [txt, if_pos hlt, allB_cons l hb p _ (by omega) h]
      by_cases h38 : bn l p = 38
      · have hn : nx l p = (38, 1) := by
          unfold nx
          rw [h38, if_neg (by decide), if_neg (by decide)]
          unfold decodeN
          rw [if_pos (by decide)]
        have hpa := pos_amp l hb p h h38
        rw [rdm_amp l p h hb h38, hn]
        dsimp only
        rw [← hpa, txt_written l hb at_ d (p + 1) D (by omega) (by omega) (by omega)]
        rfl
      · have hr : rdm (wr l) (pos l p) at_ = none := by
          unfold rdm
          rw [if_neg fun q => h38 ((bn_same l p 0 (fun i hi => by omega)).symm.trans q.2)]
        have hf := nx_facts l hb p h
        have hne : ∀ j, j < (nx l p).2 → bn l (p + j) ≠ 38 := fun j hj => by
          cases j with
          | zero => exact h38
          | succ j => exact nx_bytes l p (j + 1) (by omega) hj hf.2.1
        have hpa := pos_add l hb p (nx l p).2 hf.2.2.1 hne
        rw [hr, nx_written l p h38]
        dsimp only
        rw [← hpa, txt_written l hb at_ d (p + (nx l p).2) D (by omega) (by omega) (by omega)]
    · obtain rfl : p = l.length := by omega
      rw [allB_nil l _ _ (.inl (Int.le_refl _))]
      cases D with
      | zero => rfl
      | succ D => rw [txt, if_neg (by rw [pos_end l _ (Nat.le_refl _)]; omega)]
theorem RefPlain : decanterlaw05_RefPlain.Pure := by
  intro l0 a1 _ _ hw
  have hb : Bytes l0 := fun x hx => byte_of_wf (hw x hx)
  refine ⟨20000, ?_⟩
  unfold decanterlaw05_RefPlain.f
  by_cases h : 300 < l0.length
  · rw [if_pos h]
  · rw [if_neg h]
    have hpl := decanterlaw05_RefPlain.plain_len l0
    have hwl := decanterlaw05_RefPlain.written_len l0
    have hbp : Bytes (pl l0) := fun x hx => hb x (List.mem_filter.1 hx).1
    have hnp : ∀ p, p < (pl l0).length → bn (pl l0) p ≠ 38 := fun p hp q => by
      have hr := rd_bn hbp p
      unfold rd at hr
      rw [Int.toNat_natCast, List.getD_eq_getElem?_getD, List.getElem?_eq_getElem hp, Option.getD_some] at hr
      have hm := (List.mem_filter.1 (List.getElem_mem hp)).2
      rw [bne_iff_ne] at hm
      exact hm (by omega)
    have t1 := (text_both (pl l0) hbp (by omega) a1 0 (pl l0).length (by omega) (Nat.le_refl _) 20000 (by omega)).1
    have t2 := (text_both (wr l0) (written_bytes l0 hb) (by omega) a1 0 (wr l0).length (by omega) (Nat.le_refl _) 20000 (by omega)).1
    rw [List.take_length] at t1 t2
    rw [txt_plain (pl l0) hbp hnp a1 _ 0 (by omega)] at t1
    have e2 := txt_written l0 hb a1 l0.length 0 ((wr l0).length - 0) (by omega) (Nat.zero_le _) (by omega)
    have p0 : pos l0 0 = 0 := rfl
    rw [p0] at e2
    rw [e2] at t2
    have u1 := all_in (pl l0) hbp (by omega) 0 (Nat.zero_le _) ((pl l0).length : Int) 20000 (by omega)
    have u2 := all_in l0 hb (by omega) 0 (Nat.zero_le _) (l0.length : Int) 20000 (by omega)
    rw [show ((0 : Nat) : Int) = 0 from rfl] at t1 t2 u1 u2
    rw [t1, u1, t2, u2, Option.bind_some, Option.bind_some, Option.bind_some, Option.bind_some, if_pos ⟨rfl, rfl⟩]
end Go.Proofs.YtnmjocoopbfpnaaDoor.Pure
