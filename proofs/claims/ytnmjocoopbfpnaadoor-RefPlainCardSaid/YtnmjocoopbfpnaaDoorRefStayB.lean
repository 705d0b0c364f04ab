import Derived.Test.YtnmjocoopbfpnaaDoorRefReadB
namespace Go.Proofs.YtnmjocoopbfpnaaDoor.RefModelB
open Go.RowKit Go.Proofs.YtnmjocoopbfpnaaDoor.PRefA Go.Proofs.YtnmjocoopbfpnaaDoor.EntBaseR Go.Proofs.YtnmjocoopbfpnaaDoor.EntRefR Go.Proofs.YtnmjocoopbfpnaaDoor.CharPure Go.Proofs.YtnmjocoopbfpnaaDoorW.PrintWords Go.Proofs.YtnmjocoopbfpnaaDoorW.PrintLast Go.Proofs.YtnmjocoopbfpnaaDoorW.PrintMore

theorem dig_stop (base : Nat) (c : List Nat) : ∀ (l : List Nat) (n m : Nat), (dig base l n m).2 - m < l.length → hx (l.getD ((dig base l n m).2 - m) 0) = none → dig base (l.take ((dig base l n m).2 - m + 1) ++ c) n m = dig base l n m
  | [], n, m, h, _ => by simp at h
  | x :: r, n, m, h, hn => by
    cases hv : hx x with
    | none =>
      have e : dig base (x :: r) n m = (n, m) := by rw [dig, hv]
      rw [e]
      dsimp only
      rw [Nat.sub_self, List.take_succ_cons, List.cons_append, dig, hv]
    | some v =>
      by_cases hge : base ≤ v
      · have e : dig base (x :: r) n m = (n, m) := by
          rw [dig, hv]
          dsimp only
          rw [if_pos hge]
        rw [e] at hn
        dsimp only at hn
        rw [Nat.sub_self] at hn
        have : hx x = none := hn
        rw [hv] at this
        cases this
      · have e : dig base (x :: r) n m = dig base r (min (n * base + v) 1114112) (m + 1) := by
          rw [dig, hv]
          dsimp only
          rw [if_neg hge]
        rw [e] at h hn ⊢
        have hle := (dig_le base r (min (n * base + v) 1114112) (m + 1)).1
        rw [List.length_cons] at h
        obtain ⟨q, hq⟩ : ∃ q, (dig base r (min (n * base + v) 1114112) (m + 1)).2 = m + 1 + q := ⟨_, (Nat.add_sub_cancel' hle).symm⟩
        have ih := dig_stop base c r (min (n * base + v) 1114112) (m + 1)
        rw [hq, show m + 1 + q - (m + 1) = q by omega] at ih
        rw [hq, show m + 1 + q - m = q + 1 by omega] at h hn ⊢
        rw [List.take_succ_cons, List.cons_append, dig, hv]
        dsimp only
        rw [if_neg hge]
        exact ih (by omega) hn
theorem dig_last (base : Nat) : ∀ (l : List Nat) (n m : Nat), m < (dig base l n m).2 → hx (l.getD ((dig base l n m).2 - m - 1) 0) ≠ none
  | [], n, m, h => by
    rw [dig] at h
    exact absurd h (Nat.lt_irrefl _)
  | x :: r, n, m, h => by
    cases hv : hx x with
    | none =>
      rw [dig, hv] at h
      exact absurd h (Nat.lt_irrefl _)
    | some v =>
      by_cases hge : base ≤ v
      · rw [dig, hv] at h
        dsimp only at h
        rw [if_pos hge] at h
        exact absurd h (Nat.lt_irrefl _)
      · have e : dig base (x :: r) n m = dig base r (min (n * base + v) 1114112) (m + 1) := by
          rw [dig, hv]
          dsimp only
          rw [if_neg hge]
        rw [e]
        have hle := (dig_le base r (min (n * base + v) 1114112) (m + 1)).1
        obtain ⟨q, hq⟩ : ∃ q, (dig base r (min (n * base + v) 1114112) (m + 1)).2 = m + 1 + q := ⟨_, (Nat.add_sub_cancel' hle).symm⟩
        have ih := dig_last base r (min (n * base + v) 1114112) (m + 1)
        rw [hq] at ih ⊢
        cases q with
        | zero =>
          rw [show m + 1 + 0 - m - 1 = 0 by omega]
          show hx x ≠ none
          rw [hv]
          exact fun h => by cases h
        | succ q =>
          rw [show m + 1 + (q + 1) - m - 1 = q + 1 by omega]
          rw [show m + 1 + (q + 1) - (m + 1) - 1 = q by omega] at ih
          exact ih (by omega)
theorem rdI_at (l : List Int) (p : Nat) (at_ : Bool) (hp : p < l.length) : rdI l (p : Int) at_ = rdm l p at_ := by
  unfold rdI
  rw [if_pos ⟨by omega, by omega⟩, Int.toNat_natCast]
theorem ns_app (a b : List Int) : ns (a ++ b) = ns a ++ ns b := by unfold ns; rw [List.map_append]
theorem ns_take (a : List Int) (n : Nat) : ns (a.take n) = (ns a).take n := by unfold ns; rw [List.map_take]
theorem ns_getD (l : List Int) (p : Nat) : (ns l).getD p 0 = bn l p := by
  unfold ns bn
  rw [List.getD_eq_getElem?_getD, List.getD_eq_getElem?_getD, List.getElem?_map]
  cases l[p]? <;> rfl
theorem bn_app_l (a b : List Int) (j : Nat) (h : j < a.length) : bn (a ++ b) j = bn a j := by
  unfold bn
  rw [List.getD_eq_getElem?_getD, List.getD_eq_getElem?_getD, List.getElem?_append_left h]
theorem bn_app_r (a b : List Int) (j : Nat) : bn (a ++ b) (a.length + j) = bn b j := by
  unfold bn
  rw [List.getD_eq_getElem?_getD, List.getD_eq_getElem?_getD, List.getElem?_append_right (by omega), Nat.add_sub_cancel_left]
theorem bn_take (a : List Int) (n j : Nat) (h : j < n) : bn (a.take n) j = bn a j := by
  unfold bn
  rw [List.getD_eq_getElem?_getD, List.getD_eq_getElem?_getD, List.getElem?_take_of_lt h]
theorem bn_cut (r c : List Int) (n j : Nat) (h : j < n) (hn : n ≤ r.length) : bn (r.take n ++ c) j = bn r j := by
  rw [bn_app_l _ _ _ (by rw [List.length_take]; omega), bn_take _ _ _ h]
theorem num_stay (r c : List Int) (v e : Nat) (h : num r = some (v, e)) (h59 : bn r (e - 1) = 59) : num (r.take e ++ c) = some (v, e) := by
  have hle := num_le r v e h
  have hd := dgs_le r
  have hsk := skp_le r
  unfold num at h
  split at h
  · cases h
  · rename_i h0
    have hns : ∀ j, ((ns r).drop (skp r)).getD j 0 = bn r (skp r + j) := fun j => by
      rw [← ns_drop, ns_getD, bn_drop]
    have hlast := dig_last (bas r) ((ns r).drop (skp r)) 0 0 (by show 0 < (dgs r).2; omega)
    rw [hns] at hlast
    split at h
    · rename_i h1
      obtain ⟨rfl, he⟩ := Prod.mk.inj (Option.some.inj h)
      have hin : skp r + (dgs r).2 < r.length := by omega
      have h00 : bn (r.take e ++ c) 0 = bn r 0 := bn_cut r c e 0 (by omega) hle.2
      have hs : skp (r.take e ++ c) = skp r := by unfold skp; rw [h00]
      have hb : bas (r.take e ++ c) = bas r := by unfold bas; rw [h00]
      have hst := dig_stop (bas r) (ns c) ((ns r).drop (skp r)) 0 0 (by
        rw [List.length_drop, ns_len]
        show (dgs r).2 - 0 < _
        omega) (by
        rw [hns]
        show hx (bn r (skp r + ((dgs r).2 - 0))) = none
        rw [Nat.sub_zero, h1]
        rfl)
      have hdg : dgs (r.take e ++ c) = dgs r := by
        have e1 : (ns (r.take e ++ c)).drop (skp r) = ((ns r).drop (skp r)).take ((dgs r).2 - 0 + 1) ++ ns c := by
          rw [ns_app, ns_take, List.drop_append_of_le_length (by rw [List.length_take, ns_len]; omega), List.drop_take, show e - skp r = (dgs r).2 - 0 + 1 by omega]
        unfold dgs
        rw [hs, hb, e1]
        exact hst
      unfold num
      rw [hdg, hs, if_neg h0, if_pos (by rw [bn_cut r c e _ (by omega) hle.2]; exact h1), he]
    · obtain ⟨-, he⟩ := Prod.mk.inj (Option.some.inj h)
      exfalso
      apply hlast
      show hx (bn r (skp r + ((dgs r).2 - 0 - 1))) = none
      rw [show skp r + ((dgs r).2 - 0 - 1) = e - 1 by omega, h59]
      rfl
theorem semi1 : ((List.range 61).all fun m => (K m).dropLast.all (· != 59)) = true := by kernel_rfl
theorem toU_at (r : List Int) (p : Nat) (hp : p < r.length) : (toU r)[p]? = some (UInt8.ofNat (bn r p)) := by
  unfold toU bn
  rw [List.getElem?_map, List.getD_eq_getElem?_getD, List.getElem?_eq_getElem hp]
  rfl
theorem nam_two (r : List Int) (at_ : Bool) (t : List UInt8) (n : Nat) (h : nam r at_ = some (t, n)) : 2 ≤ n ∧ lk ((toU r).take n) = some t := by
  obtain ⟨h0, hl, -, hbst⟩ := nam_le _ _ _ _ h
  have hi := best_is (toU r) (min r.length 8)
  have hbst' : best (toU r) (min r.length 8) = (n, t) := hbst
  rw [hbst'] at hi
  have hk := hi h0
  obtain ⟨m, hm, hK, -⟩ := lk_some _ _ hk
  have hs := K_size m hm
  rw [← hK, List.length_take, toU_len] at hs
  exact ⟨by omega, hk⟩
theorem nam_stay (r c : List Int) (at_ : Bool) (t : List UInt8) (n : Nat) (h : nam r at_ = some (t, n)) (h59 : bn r (n - 1) = 59) : nam (r.take n ++ c) at_ = some (t, n) := by
  obtain ⟨h0, hl, h8, hbst⟩ := nam_le _ _ _ _ h
  obtain ⟨-, hk⟩ := nam_two r at_ t n h
  have hlen : (r.take n ++ c).length = n + c.length := by rw [List.length_append, List.length_take, Nat.min_eq_left hl]
  have hb : bst (r.take n ++ c) = (n, t) := by
    unfold bst
    refine best_of _ t _ n (by omega) ?_ ?_ h0
    · rw [toU_app, toU_take, List.take_append_of_le_length (by rw [List.length_take, toU_len]; omega), List.take_take, Nat.min_self]
      exact hk
    · intro i h1 h2
      cases hv : lk ((toU (r.take n ++ c)).take i) with
      | none => rfl
      | some t' =>
        exfalso
        obtain ⟨m, hm, hK, -⟩ := lk_some _ _ hv
        have hs := List.all_eq_true.1 semi1 m (List.mem_range.2 hm)
        have hU := toU_at (r.take n ++ c) (n - 1) (by omega)
        rw [bn_cut r c n (n - 1) (by omega) hl, h59] at hU
        have hlt : (toU (r.take n ++ c)).length = n + c.length := by rw [toU_len, hlen]
        have hdl : (K m).dropLast = (toU (r.take n ++ c)).take (i - 1) := by
          rw [← hK, List.dropLast_eq_take, List.take_take, List.length_take, hlt]
          congr 1
          omega
        have hmem : UInt8.ofNat 59 ∈ (K m).dropLast := by
          rw [hdl]
          refine List.mem_of_getElem? (i := n - 1) ?_
          rw [List.getElem?_take_of_lt (by omega)]
          exact hU
        have := List.all_eq_true.1 hs _ hmem
        exact absurd this (by decide)
  unfold nam
  rw [hb]
  dsimp only
  rw [if_neg (by omega), if_neg (fun q => q.2.1 (by rw [bn_cut r c n _ (by omega) hl]; exact h59))]
theorem rdm_three (l : List Int) (p : Nat) (at_ : Bool) (t : List UInt8) (e : Nat) (h : rdm l p at_ = some (t, e)) : p + 3 ≤ e := by
  rcases rdm_le l p at_ t e h with q | ⟨-, q⟩
  · exact q
  · unfold rdm at h
    split at h
    · obtain ⟨⟨u, n⟩, hn, he⟩ := Option.map_eq_some_iff.1 h
      obtain ⟨-, rfl⟩ := Prod.mk.inj he
      have := (nam_two _ _ _ _ hn).1
      dsimp only
      omega
    · cases h
theorem rdm_stay (a b c : List Int) (at_ : Bool) (t : List UInt8) (e : Nat) (h : rdm b 0 at_ = some (t, e)) (h59 : bn b (e - 1) = 59) : rdm (a ++ (b.take e ++ c)) a.length at_ = some (t, a.length + e) := by
  have h3 := rdm_three b 0 at_ t e h
  have hend := rdm_end b 0 at_ t e h
  have hbn : ∀ j, j < e → bn (a ++ (b.take e ++ c)) (a.length + j) = bn b j := fun j hj => by
    rw [bn_app_r, bn_cut b c e j hj hend.2]
  have hdr : ∀ m, m ≤ e → (a ++ (b.take e ++ c)).drop (a.length + m) = (b.drop m).take (e - m) ++ c := fun m hm => by
    rw [← List.drop_drop, List.drop_left, List.drop_append_of_le_length (by rw [List.length_take]; omega), List.drop_take]
  have hb0 : 0 < b.length ∧ bn b 0 = 38 := by
    unfold rdm at h
    split at h
    · assumption
    · cases h
  have hb38 : bn (a ++ (b.take e ++ c)) a.length = 38 := by
    have := hbn 0 (by omega)
    rw [Nat.add_zero] at this
    rw [this]; exact hb0.2
  have hlt : a.length < (a ++ (b.take e ++ c)).length := by
    rw [List.length_append, List.length_append, List.length_take]
    omega
  rw [rdm_in _ _ _ hlt hb38, hbn 1 (by omega), hdr 2 (by omega), hdr 1 (by omega)]
  rw [rdm_in b 0 at_ hb0.1 hb0.2] at h
  rw [Nat.zero_add, Nat.zero_add] at h
  by_cases h35 : bn b 1 = 35
  · rw [if_pos h35] at h ⊢
    obtain ⟨⟨v, n⟩, hn, he⟩ := Option.map_eq_some_iff.1 h
    obtain ⟨rfl, rfl⟩ := Prod.mk.inj he
    have hpos := num_le _ _ _ hn
    dsimp only at h59 h3 ⊢
    have hst := num_stay (b.drop 2) c v n hn (by
      rw [bn_drop, ← h59]
      congr 1
      omega)
    rw [show 2 + n - 2 = n by omega, hst, Option.map_some]
    dsimp only
    rw [Nat.add_assoc]
  · rw [if_neg h35] at h ⊢
    obtain ⟨⟨v, n⟩, hn, he⟩ := Option.map_eq_some_iff.1 h
    obtain ⟨rfl, rfl⟩ := Prod.mk.inj he
    have hpos := nam_le _ _ _ _ hn
    dsimp only at h59 h3 ⊢
    have hst := nam_stay (b.drop 1) c at_ v n hn (by
      rw [bn_drop, ← h59]
      congr 1
      omega)
    rw [show 1 + n - 1 = n by omega, hst, Option.map_some]
    dsimp only
    rw [Nat.add_assoc]
end Go.Proofs.YtnmjocoopbfpnaaDoor.RefModelB
