/-
  Lists of entries, in plain Lean: of alike elements the last three stay.
-/
import Derived.Test.YtcdkcnegejhnhaaLsAttrs
import Derived.Test.YtcdkcnegejhnhaaLsPure
namespace Go.Proofs.Ytcdkcnegejhnhaa.Ar
open Go.RowKit Go.Proofs.Ytcdkcnegejhnhaa.PAr Go.Proofs.YtcdkcnegejhnhaaW.PrintWords Go.Proofs.YtcdkcnegejhnhaaW.PrintLast Go.Proofs.YtcdkcnegejhnhaaW.PrintMore
set_option linter.unusedVariables false
/-- Of three and more the first out. -/
def rm {α : Type} (p : α → Bool) (s : List α) : List α := if 3 ≤ (s.filter p).length then s.eraseP p else s
/-- Those with fewer than three alike behind them. -/
def lastThree (sim : Nat → Nat → Bool) : List Nat → List Nat
  | [] => []
  | x :: r => if (r.filter (sim x)).length < 3 then x :: lastThree sim r else lastThree sim r
/-- A relation that tells kinds. -/
structure Kinds (sim : Nat → Nat → Bool) : Prop where
  refl : ∀ x, sim x x = true
  symm : ∀ x y, sim x y = sim y x
  same : ∀ x y, sim x y = true → ∀ z, sim x z = sim y z
theorem lastThree_filter {sim : Nat → Nat → Bool} (h : Kinds sim) (n : Nat) : ∀ r : List Nat, ((lastThree sim r).filter (sim n)).length = min 3 (r.filter (sim n)).length
  | [] => rfl
  | x :: r => by
    have ih := lastThree_filter h n r
    by_cases hx : sim n x = true
    · have e : r.filter (sim x) = r.filter (sim n) := List.filter_congr fun y _ => (h.same n x hx y).symm
      rw [lastThree, e, List.filter_cons, if_pos hx, List.length_cons]
      split
      · rw [List.filter_cons, if_pos hx, List.length_cons]; omega
      · omega
    · rw [lastThree, List.filter_cons, if_neg hx]
      split
      · rw [List.filter_cons, if_neg hx]; exact ih
      · exact ih
theorem lastThree_snoc {sim : Nat → Nat → Bool} (h : Kinds sim) (n : Nat) : ∀ r : List Nat, lastThree sim (r ++ [n]) = rm (sim n) (lastThree sim r) ++ [n]
  | [] => by simp [lastThree, rm]
  | x :: r => by
    have ih := lastThree_snoc h n r
    have hf := lastThree_filter h n r
    rw [List.cons_append, lastThree, lastThree, List.filter_append, List.length_append, ih]
    by_cases hx : sim n x = true
    · have hx' : sim x n = true := by rw [h.symm]; exact hx
      have e : r.filter (sim x) = r.filter (sim n) := List.filter_congr fun y _ => (h.same n x hx y).symm
      have e1 : ([n].filter (sim x)).length = 1 := by rw [List.filter_cons, if_pos hx']; rfl
      rw [e, e1]
      by_cases c1 : (r.filter (sim n)).length < 2
      · rw [if_pos (by omega), if_pos (by omega)]
        unfold rm
        rw [List.filter_cons, if_pos hx, List.length_cons, if_neg (by omega), if_neg (by omega)]
        rfl
      · by_cases c2 : (r.filter (sim n)).length < 3
        · rw [if_neg (by omega), if_pos c2]
          unfold rm
          rw [List.filter_cons, if_pos hx, List.length_cons, if_neg (by omega), if_pos (by omega), List.eraseP_cons, hx, cond_true]
        · rw [if_neg (by omega), if_neg c2]
    · have hx' : ¬ sim x n = true := by rw [h.symm]; exact hx
      have e1 : ([n].filter (sim x)).length = 0 := by rw [List.filter_cons, if_neg hx']; rfl
      rw [e1, Nat.add_zero]
      split
      · unfold rm
        rw [List.filter_cons, if_neg hx]
        split
        · have hxf : sim n x = false := by rw [Bool.not_eq_true] at hx; exact hx
          rw [List.eraseP_cons, hxf, cond_false]
          rfl
        · rfl
      · rfl
theorem erase_cut {α : Type} (p : α → Bool) : ∀ s : List α, 0 < (s.filter p).length → s.take (s.findIdx p) ++ s.drop (s.findIdx p + 1) = s.eraseP p
  | [], h => by simp at h
  | x :: r, h => by
    rw [List.findIdx_cons, List.eraseP_cons]
    cases hx : p x
    · rw [List.filter_cons, if_neg (by rw [hx]; decide)] at h
      have := erase_cut p r h
      simp only [cond_false, List.take_succ_cons, List.drop_succ_cons, List.cons_append]
      rw [this]
    · simp
theorem pushL_rm (m : M) (xs : List Int) (hx : ∀ x ∈ xs, x ≠ -1) (e : Nat) : pushL m xs e = rm (al m (m.el e)) xs ++ [(e : Int)] := by
  have hm : markN xs = 0 := by
    unfold markN
    rw [markAt_none fun j hj => by rw [List.getElem?_eq_getElem hj]; exact hx _ (List.getElem_mem hj)]
    rfl
  unfold pushL rm
  rw [hm]
  unfold many first many
  rw [List.drop_zero]
  split
  · rw [if_neg (by omega), Nat.zero_add, erase_cut _ _ (by omega)]
  · rfl
theorem rm_map (p : Int → Bool) (q : Nat → Bool) (g : Nat → Int) (s : List Nat) (h : ∀ x ∈ s, p (g x) = q x) : rm p (s.map g) = (rm q s).map g := by
  have e1 : ((s.map g).filter p).length = (s.filter q).length := by
    rw [List.filter_map, List.length_map]
    congr 1
    exact List.filter_congr h
  have e2 : ∀ s : List Nat, (∀ x ∈ s, p (g x) = q x) → (s.map g).eraseP p = (s.eraseP q).map g := by
    intro s
    induction s with
    | nil => intro _; rfl
    | cons x r ih =>
      intro h
      rw [List.map_cons, List.eraseP_cons, List.eraseP_cons, h x (List.mem_cons_self ..)]
      cases q x
      · rw [cond_false, cond_false, List.map_cons, ih fun y hy => h y (List.mem_cons_of_mem _ hy)]
      · rfl
  unfold rm
  rw [e1]
  split
  · exact e2 s h
  · rfl
section
variable (l : List ByteArray) (at' : List S106)
def attOf (i : Nat) : List S105 := if i % 2 = 1 then [] else ofB at'
/-- The arena and the list behind i names. -/
def alk : Nat → M × List Int
  | 0 => (M.new, [])
  | i + 1 => stepB (alk i) (l.getD i ⟨#[]⟩) (attOf at' i)
/-- Are two of the elements alike? -/
def simL (i k : Nat) : Bool := ((l.getD k ⟨#[]⟩).toList == (l.getD i ⟨#[]⟩).toList) && (decide (k % 2 = i % 2) || decide (at'.length = 0))
theorem simL_kinds : Kinds (simL l at') where
  refl := fun x => by simp [simL]
  symm := fun x y => by
    unfold simL
    rw [Bool.beq_comm]
    congr 2
    exact decide_eq_decide.2 eq_comm
  same := fun x y h z => by
    unfold simL at h ⊢
    rw [Bool.and_eq_true, Bool.or_eq_true, beq_iff_eq, decide_eq_true_eq, decide_eq_true_eq] at h
    obtain ⟨h1, h2⟩ := h
    rw [h1]
    congr 1
    rcases h2 with h2 | h2
    · rw [h2]
    · rw [decide_eq_true h2, Bool.or_true, Bool.or_true]
theorem alk_good (ha : at'.length < 1000000) : ∀ i, Gd (alk l at' i).1 (alk l at' i).2 (2 * i + 1)
  | 0 => Gd.new
  | i + 1 => by
    have := (alk_good ha i).step (l.getD i ⟨#[]⟩) (attOf at' i) (by unfold attOf; split <;> first | decide | (rw [ofB_length]; exact ha))
    rw [show 2 * (i + 1) + 1 = 2 * i + 1 + 2 by omega]
    exact this
theorem alk_elems : ∀ i, (alk l at' i).1.elems.length = i + 1
  | 0 => rfl
  | i + 1 => by
    show ((alk l at' i).1.element _ _).elems.length = _
    rw [(element_len _ _ _).1, alk_elems i]
theorem alk_el (ha : at'.length < 1000000) : ∀ i j, j < i → ((alk l at' i).1.el (j + 1)).name = l.getD j ⟨#[]⟩ ∧ ((alk l at' i).1.el (j + 1)).attrs = attOf at' j
  | 0, j, h => by omega
  | i + 1, j, h => by
    show (((alk l at' i).1.element _ _).el (j + 1)).name = _ ∧ (((alk l at' i).1.element _ _).el (j + 1)).attrs = _
    have hl := alk_elems l at' i
    by_cases hj : j < i
    · rw [(el_get (alk_good l at' ha i).els (by omega) _ _).1]
      exact alk_el ha i j hj
    · obtain rfl : j = i := by omega
      rw [← hl, (el_new _ _ _).1]
      exact ⟨rfl, rfl⟩
theorem att_same (hs : eqA at' at' = true) (hl : at'.length ≤ 100000) (j k : Nat) : sameA (attOf at' j) (attOf at' k) = (decide (j % 2 = k % 2) || decide (at'.length = 0)) := by
  have h0 : sameA [] [] = true := by decide
  have h1 : sameA (ofB at') (ofB at') = true := by rw [sameA_of _ _ hl hl]; exact hs
  have h2 : at'.length = 0 → at' = [] := List.eq_nil_of_length_eq_zero
  by_cases hz : at'.length = 0
  · have hk : ∀ i, attOf at' i = [] := fun i => by
      unfold attOf
      split
      · rfl
      · rw [h2 hz]; rfl
    rw [hk, hk, h0, decide_eq_true hz, Bool.or_true]
  · rw [decide_eq_false hz, Bool.or_false]
    unfold attOf
    by_cases a : j % 2 = 1 <;> by_cases b : k % 2 = 1
    · rw [if_pos a, if_pos b, h0, decide_eq_true (by omega)]
    · rw [if_pos a, if_neg b, decide_eq_false (by omega : ¬ j % 2 = k % 2)]
      unfold sameA
      rw [decide_eq_false (by rw [ofB_length, List.length_nil]; omega), Bool.false_and]
    · rw [if_neg a, if_pos b, decide_eq_false (by omega : ¬ j % 2 = k % 2)]
      unfold sameA
      rw [decide_eq_false (by rw [ofB_length, List.length_nil]; omega), Bool.false_and]
    · rw [if_neg a, if_neg b, h1, decide_eq_true (by omega)]
def no1 (j : Nat) : Int := ((j + 1 : Nat) : Int)
theorem alk_last (hs : eqA at' at' = true) (hl : at'.length ≤ 100000) : ∀ i, (alk l at' i).2 = (lastThree (simL l at') (List.range i)).map no1
  | 0 => rfl
  | i + 1 => by
    have ih := alk_last hs hl i
    have hg := alk_good l at' (by omega) i
    have he := alk_elems l at' i
    have hg2 : Gd ((alk l at' i).1.element (l.getD i ⟨#[]⟩) (attOf at' i)) (alk l at' i).2 (2 * i + 1 + 1) := hg.element _ _ (by unfold attOf; split <;> first | decide | (rw [ofB_length]; omega))
    show pushL ((alk l at' i).1.element _ _) (alk l at' i).2 (alk l at' i).1.elems.length = _
    rw [List.range_succ, lastThree_snoc (simL_kinds l at'), List.map_append, pushL_rm _ _ (fun x hx e => ?_), he, ih]
    · congr 1
      refine rm_map _ _ no1 _ fun x hx => ?_
      have hxi : x < i := by
        have hmem : ∀ r : List Nat, ∀ y ∈ lastThree (simL l at') r, y ∈ r := by
          intro r
          induction r with
          | nil => intro y hy; exact hy
          | cons z r ih2 =>
            intro y hy
            rw [lastThree] at hy
            split at hy
            · rcases List.mem_cons.1 hy with rfl | h
              · exact List.mem_cons_self ..
              · exact List.mem_cons_of_mem _ (ih2 y h)
            · exact List.mem_cons_of_mem _ (ih2 y hy)
        exact List.mem_range.1 (hmem _ x hx)
      unfold al no1 simL
      rw [Int.toNat_natCast]
      have a1 := alk_el l at' (by omega) (i + 1) x (by omega)
      have a2 := alk_el l at' (by omega) (i + 1) i (by omega)
      have e1 : (((alk l at' i).1.element (l.getD i ⟨#[]⟩) (attOf at' i)).el (x + 1)).name = l.getD x ⟨#[]⟩ := a1.1
      have e2 : (((alk l at' i).1.element (l.getD i ⟨#[]⟩) (attOf at' i)).el (x + 1)).attrs = attOf at' x := a1.2
      have e3 : (((alk l at' i).1.element (l.getD i ⟨#[]⟩) (attOf at' i)).el (i + 1)).name = l.getD i ⟨#[]⟩ := a2.1
      have e4 : (((alk l at' i).1.element (l.getD i ⟨#[]⟩) (attOf at' i)).el (i + 1)).attrs = attOf at' i := a2.2
      rw [e1, e2, e3, e4, att_same at' hs hl]
      congr 1
      rw [Bool.eq_iff_iff, decide_eq_true_eq, beq_iff_eq]
    · rw [ih] at hx
      obtain ⟨y, _, hy⟩ := List.mem_map.1 hx
      unfold no1 at hy
      omega
/-- How many behind one are alike, up to a place. -/
def behind (i k : Nat) : Nat := ((List.range' (i + 1) (k - (i + 1))).filter (simL l at' i)).length
theorem behind_start (i : Nat) : behind l at' i (i + 1) = 0 := by simp [behind]
theorem behind_step' (i k : Nat) (h : i + 1 ≤ k) : behind l at' i (k + 1) = behind l at' i k + (if simL l at' i k = true then 1 else 0) := by
  unfold behind
  rw [show k + 1 - (i + 1) = k - (i + 1) + 1 by omega, List.range'_concat, List.filter_append, List.length_append, Nat.one_mul, show i + 1 + (k - (i + 1)) = k by omega, List.filter_cons]
  split <;> rfl
theorem behind_le (i k : Nat) : behind l at' i k ≤ k := by
  unfold behind
  refine Nat.le_trans (List.length_filter_le _ _) ?_
  rw [List.length_range']
  omega
/-- What is wanted, up to a place. -/
def wantU : Nat → List Int
  | 0 => []
  | i + 1 => if behind l at' i l.length < 3 then wantU i ++ [no1 i] else wantU i
theorem wantU_len : ∀ i, (wantU l at' i).length ≤ i
  | 0 => Nat.le_refl _
  | i + 1 => by
    have := wantU_len i
    rw [wantU]
    split
    · rw [List.length_append, List.length_singleton]; omega
    · omega
theorem want_last : wantU l at' l.length = (lastThree (simL l at') (List.range l.length)).map no1 := by
  have h1 : ∀ m i, i + m = l.length → wantU l at' l.length = wantU l at' i ++ (lastThree (simL l at') (List.range' i m)).map no1 := by
    intro m
    induction m with
    | zero =>
      intro i hi
      obtain rfl : i = l.length := by omega
      simp [lastThree]
    | succ m ih =>
      intro i hi
      rw [ih (i + 1) (by omega), wantU, List.range'_succ, lastThree]
      have e : ((List.range' (i + 1) m).filter (simL l at' i)).length = behind l at' i l.length := by
        unfold behind
        rw [show l.length - (i + 1) = m by omega]
      rw [e]
      split
      · rw [List.append_assoc]; rfl
      · rfl
  have := h1 l.length 0 (by omega)
  rw [wantU, List.nil_append, ← List.range_eq_range'] at this
  exact this
end
end Go.Proofs.Ytcdkcnegejhnhaa.Ar
