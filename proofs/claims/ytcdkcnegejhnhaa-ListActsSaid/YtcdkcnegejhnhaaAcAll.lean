/-
  ListActs: the document's answers in plain Lean; an arena, a list over it and blocks beside them that stay; the document's arena and one element more in it; what each operation leaves.
-/
import Derived.Test.YtcdkcnegejhnhaaLsAttrs
import Derived.Test.YtcdkcnegejhnhaaLsLast
import Derived.Test.YtcdkcnegejhnhaaLsSpeaks
import Derived.Test.YtcdkcnegejhnhaaPArx6
import Derived.Test.YtcdkcnegejhnhaaPArx7
import Derived.Test.YtcdkcnegejhnhaaPArx8
import Derived.Deep.RegionLaw
namespace Go.Proofs.Ytcdkcnegejhnhaa.Ar
open Go.RowKit Go.Proofs.Ytcdkcnegejhnhaa.PAr Go.Proofs.YtcdkcnegejhnhaaW.PrintWords Go.Proofs.YtcdkcnegejhnhaaW.PrintLast Go.Proofs.YtcdkcnegejhnhaaW.PrintMore
set_option linter.unusedVariables false
set_option linter.unusedSimpArgs false
theorem rdL {l : List Int} {i : Nat} {x : Int} (h : l[i]? = some x) : rd l (i : Int) = x := by
  unfold rd
  rw [Int.toNat_natCast, List.getD_eq_getElem?_getD, h, Option.getD_some]
theorem wS (i : Nat) (h : i ≤ 1000000) : wrap64 ((i : Int) - 1) = (i : Int) - 1 := IntWalk.wrap64_in _ (by omega)
theorem markAt_snoc (x : Int) : ∀ xs : List Int, markAt (xs ++ [x]) = if x = -1 then (xs.length : Int) else markAt xs
  | [] => by
    show (if 0 ≤ (-1 : Int) then (-1 : Int) + 1 else if x = -1 then 0 else -1) = _
    rw [if_neg (by omega)]
    split <;> rfl
  | y :: r => by
    have ih := markAt_snoc x r
    rw [List.cons_append, markAt, ih, markAt]
    have := markAt_bounds r
    by_cases hx : x = -1
    · rw [if_pos hx, if_pos hx, if_pos (by omega), List.length_cons]
      omega
    · rw [if_neg hx, if_neg hx]
theorem take_snoc_int {l : List Int} {i : Nat} {x : Int} (h : l[i]? = some x) : l.take (i + 1) = l.take i ++ [x] := by
  rw [List.take_add_one, h]
  rfl
theorem since_eq (l : List Int) (hl : l.length ≤ 1000) (k : Nat) (hk : l.length + 1 ≤ k) : decanterref14_Since.f k l = some (markN l : Int) := by
  have loop : ∀ i q : Nat, i ≤ l.length → i + 1 ≤ q → decanterref14_Since.l0 q l ((i : Int) - 1) = some (markN (l.take i) : Int) := by
    intro i
    induction i with
    | zero =>
      intro q hi hq
      obtain ⟨q, rfl⟩ : ∃ q', q = q' + 1 := ⟨q - 1, by omega⟩
      rw [decanterref14_Since.l0, if_neg (by omega)]
      rfl
    | succ i ih =>
      intro q hi hq
      obtain ⟨q, rfl⟩ : ∃ q', q = q' + 1 := ⟨q - 1, by omega⟩
      have hx : l[i]? = some l[i] := List.getElem?_eq_getElem (by omega)
      rw [show (((i + 1 : Nat) : Int) - 1) = (i : Int) by omega, decanterref14_Since.l0, if_pos (by omega), if_pos (by omega), if_pos (by omega), rdL hx, take_snoc_int hx]
      by_cases hm : l[i] = -1
      · have e : markN (l.take i ++ [l[i]]) = i + 1 := by
          unfold markN
          rw [markAt_snoc, if_pos hm, List.length_take]
          omega
        rw [if_pos hm, e, wB i (by omega)]
      · have e : markN (l.take i ++ [l[i]]) = markN (l.take i) := by
          unfold markN
          rw [markAt_snoc, if_neg hm]
        rw [if_neg hm, e, wS i (by omega)]
        exact ih q (by omega) (by omega)
  have := loop l.length k (Nat.le_refl _) hk
  rw [List.take_length] at this
  unfold decanterref14_Since.f
  rw [wS _ (by omega)]
  exact this
theorem without_eq (l : List Int) (hl : l.length ≤ 1000) (i : Nat) (hi : i < l.length) : decanterref14_Without.f l (i : Int) = some (l.take i ++ l.drop (i + 1)) := by
  unfold decanterref14_Without.f
  have h1 : (l.take i).length ≤ 1000 := by rw [List.length_take]; omega
  have h2 : (l.drop (i + 1)).length ≤ 1000 := by rw [List.length_drop]; omega
  rw [wB i (by omega), Int.toNat_natCast, Int.toNat_natCast]
  simp only [Option.bind_some, List.nil_append, List.length_nil]
  rw [if_pos (by omega), if_pos (by omega), if_pos (by omega), if_pos (by omega), if_pos (by omega), if_pos (by omega)]
theorem insert_eq (l : List Int) (hl : l.length ≤ 1000) (i : Nat) (hi : i ≤ l.length) (e : Int) : decanterref14_Insert.f l (i : Int) e = some (insL l i e) := by
  unfold decanterref14_Insert.f insL
  have h1 : (l.take i).length ≤ 1000 := by rw [List.length_take]; omega
  have h2 : (l.drop i).length ≤ 1000 := by rw [List.length_drop]; omega
  simp only [Option.bind_some, List.nil_append, List.length_nil, List.length_singleton, List.length_append, Int.toNat_natCast]
  rw [if_pos (by omega), if_pos (by omega), if_pos (by omega), if_pos (by omega), if_pos (by omega), List.append_assoc]
  rfl
theorem find_eq (l : List Int) (x : Int) (hl : l.length ≤ 1000) (k : Nat) (hk : l.length + 1 ≤ k) : decanterref14_Find.f k l x = some (findL l x) := by
  have loop : ∀ n i q : Nat, i + n = l.length → n + 1 ≤ q → decanterref14_Find.l0 q l x (i : Int) = some (if x = -1 then -1 else Lib.idxFrom (l.drop i) x i) := by
    intro n
    induction n with
    | zero =>
      intro i q hi hq
      obtain ⟨q, rfl⟩ : ∃ q', q = q' + 1 := ⟨q - 1, by omega⟩
      rw [decanterref14_Find.l0, if_neg (by omega), List.drop_of_length_le (by omega)]
      split <;> rfl
    | succ n ih =>
      intro i q hi hq
      obtain ⟨q, rfl⟩ : ∃ q', q = q' + 1 := ⟨q - 1, by omega⟩
      have hlt : i < l.length := by omega
      rw [decanterref14_Find.l0, if_pos (by omega), if_pos (by omega), rdL (List.getElem?_eq_getElem hlt), wB i (by omega), ih (i + 1) q (by omega) (by omega), List.drop_eq_getElem_cons hlt, Lib.idxFrom]
      by_cases hx : x = -1
      · rw [if_pos hx, if_pos hx]
        split <;> rfl
      · rw [if_neg hx, if_neg hx, if_neg hx]
        by_cases he : l[i] = x
        · rw [if_pos he]
          first | rw [if_pos he] | rw [if_pos he.symm] | (rw [beq_iff_eq.2 he]; rfl) | simp [he]
        · rw [if_neg he]
          first | rw [if_neg he] | rw [if_neg (fun e => he e.symm)] | simp [he]
  unfold decanterref14_Find.f findL Lib.idxOf
  have := loop l.length 0 k (by omega) (by omega)
  rw [List.drop_zero] at this
  exact this
/-- The document's arena and the program's, as far as lists see them. -/
structure Rel (m : M) (names : List ByteArray) (attrs : List (List S106)) : Prop where
  ln : names.length = m.elems.length
  la : attrs.length = m.elems.length
  nm : ∀ i, i < m.elems.length → names.getD i ⟨#[]⟩ = (m.el i).name
  at_ : ∀ i, i < m.elems.length → ofB (attrs.getD i []) = (m.el i).attrs ∧ (attrs.getD i []).length ≤ 10
theorem Rel.new : Rel M.new [⟨#[]⟩] [[]] where
  ln := rfl
  la := rfl
  nm := fun i hi => by
    obtain rfl : i = 0 := by simp [M.new] at hi; exact hi
    rfl
  at_ := fun i hi => by
    obtain rfl : i = 0 := by simp [M.new] at hi; exact hi
    exact ⟨rfl, by decide⟩
theorem getD_snoc_lt {α : Type} (l : List α) (x z : α) (i : Nat) (h : i < l.length) : (l ++ [x]).getD i z = l.getD i z := by
  rw [List.getD_eq_getElem?_getD, List.getD_eq_getElem?_getD, List.getElem?_append_left h]
theorem getD_snoc_eq {α : Type} (l : List α) (x z : α) : (l ++ [x]).getD l.length z = x := by
  rw [List.getD_eq_getElem?_getD, List.getElem?_append_right (Nat.le_refl _), Nat.sub_self]
  rfl
theorem Rel.element {m : M} {names : List ByteArray} {attrs : List (List S106)} (h : Rel m names attrs) (hE : Els m) (name : ByteArray) (a : List S106) (ha : a.length ≤ 10) : Rel (m.element name (ofB a)) (names ++ [name]) (attrs ++ [a]) where
  ln := by rw [List.length_append, List.length_singleton, (element_len _ _ _).1, h.ln]
  la := by rw [List.length_append, List.length_singleton, (element_len _ _ _).1, h.la]
  nm := fun i hi => by
    rw [(element_len _ _ _).1] at hi
    by_cases hlt : i < m.elems.length
    · rw [getD_snoc_lt _ _ _ _ (by rw [h.ln]; exact hlt), (el_get hE hlt _ _).1]
      exact h.nm i hlt
    · obtain rfl : i = m.elems.length := by omega
      have := getD_snoc_eq names name ⟨#[]⟩
      rw [h.ln] at this
      rw [this, (el_new _ _ _).1]
  at_ := fun i hi => by
    rw [(element_len _ _ _).1] at hi
    by_cases hlt : i < m.elems.length
    · rw [getD_snoc_lt _ _ _ _ (by rw [h.la]; exact hlt), (el_get hE hlt _ _).1]
      exact h.at_ i hlt
    · obtain rfl : i = m.elems.length := by omega
      have := getD_snoc_eq attrs a []
      rw [h.la] at this
      rw [this, (el_new _ _ _).1]
      exact ⟨rfl, ha⟩
theorem ent_at {m : M} {l : List Int} (hx : ∀ x ∈ l, x = -1 ∨ ∃ i : Nat, x = (i : Int) ∧ i < m.elems.length) {q : Nat} (hq : q < l.length) (hm : markN l ≤ q) : ∃ i : Nat, l[q]? = some (i : Int) ∧ i < m.elems.length := by
  rcases hx l[q] (List.getElem_mem hq) with e | ⟨i, e, hi⟩
  · have h1 := markAt_max hq (by rw [List.getElem?_eq_getElem hq]; exact e)
    have h2 := markN_eq l
    omega
  · exact ⟨i, by rw [List.getElem?_eq_getElem hq, e], hi⟩
/-- What is found, and at which place first. -/
def firstI (p : Int → Bool) (l : List Int) (x8 : Int) (i : Nat) : Int := if x8 < 0 then (if many p l i = 0 then -1 else (first p l i : Int)) else x8
def pushR (p : Int → Bool) (l : List Int) (e : Nat) (n : Nat) (f : Int) : List Int := if 3 ≤ n then l.take f.toNat ++ l.drop (f.toNat + 1) ++ [(e : Int)] else l ++ [(e : Int)]
theorem push_eq {m : M} {names : List ByteArray} {attrs : List (List S106)} (hR : Rel m names attrs) (inner : List (List S115)) (par : List Int) (cp : Int) (l : List Int) (hl : l.length ≤ 1000) (hx : ∀ x ∈ l, x = -1 ∨ ∃ i : Nat, x = (i : Int) ∧ i < m.elems.length)
    (e : Nat) (he : e < m.elems.length) (k : Nat) (hk : 2 * l.length + 40 ≤ k) : decanterref14_Push.f k names attrs inner par cp l (e : Int) = some (pushL m l e) := by
  have hln := hR.ln
  have hla := hR.la
  have loop : ∀ n i q : Nat, ∀ (x7 : Nat) (x8 : Int), i + n = l.length → markN l ≤ i → 2 * n + 30 ≤ q → x7 ≤ i → (x8 < 0 → x7 = 0) → (0 ≤ x8 → x8 < (l.length : Int)) → decanterref14_Push.l0 q l (e : Int) (x7 : Int) x8 (i : Int) names attrs inner par cp = some (pushR (al m (m.el e)) l e (x7 + many (al m (m.el e)) l i) (firstI (al m (m.el e)) l x8 i)) := by
    intro n
    induction n with
    | zero =>
      intro i q x7 x8 hi hm hq h7 h8 h9
      obtain ⟨q, rfl⟩ : ∃ q', q = q' + 1 := ⟨q - 1, by omega⟩
      obtain rfl : i = l.length := by omega
      have hm0 := (many_end (al m (m.el e)) l).1
      rw [decanterref14_Push.l0, if_neg (by omega), hm0, Nat.add_zero]
      unfold pushR firstI
      rw [hm0, if_pos rfl]
      by_cases h3 : 3 ≤ x7
      · have h80 : ¬ x8 < 0 := fun h => by have := h8 h; omega
        have h90 := h9 (by omega)
        obtain ⟨f, rfl⟩ : ∃ f : Nat, x8 = (f : Int) := ⟨x8.toNat, by omega⟩
        have hfl : (l.take f ++ l.drop (f + 1)).length ≤ 1000 := by rw [List.length_append, List.length_take, List.length_drop]; omega
        rw [if_pos (by omega), without_eq l hl f (by omega), if_pos h3, if_neg h80, Int.toNat_natCast]
        simp only [Option.bind_some, List.nil_append, List.length_nil]
        rw [if_pos (by omega), if_pos (by omega)]
      · rw [if_neg (by omega), if_neg h3]
        simp only [Option.bind_some, List.nil_append, List.length_nil]
        rw [if_pos (by omega), if_pos (by omega)]
    | succ n ih =>
      intro i q x7 x8 hi hm hq h7 h8 h9
      obtain ⟨q, rfl⟩ : ∃ q', q = q' + 1 + 1 := ⟨q - 2, by omega⟩
      obtain ⟨j, hj, hjl⟩ := ent_at hx (by omega : i < l.length) hm
      have e1 : (rdOf ByteArray.empty names (j : Int)) = (m.el j).name := hR.nm j hjl
      have e2 : (rdOf ByteArray.empty names (e : Int)) = (m.el e).name := hR.nm e he
      have e3 : rd_L2 attrs (j : Int) = attrs.getD j [] := rfl
      have e4 : rd_L2 attrs (e : Int) = attrs.getD e [] := rfl
      obtain ⟨a1, a2⟩ := hR.at_ j hjl
      obtain ⟨b1, b2⟩ := hR.at_ e he
      have hs : eqA (attrs.getD j []) (attrs.getD e []) = sameA (m.el j).attrs (m.el e).attrs := by rw [← sameA_of _ _ (by omega) (by omega), a1, b1]
      have hal : al m (m.el e) (j : Int) = (decide ((m.el j).name.toList = (m.el e).name.toList) && sameA (m.el j).attrs (m.el e).attrs) := rfl
      obtain ⟨m1, m2⟩ := many_step (f := al m (m.el e)) hj
      have j1 : ∀ b : Bool, al m (m.el e) (j : Int) = b → decanterref14_Push.j1 (q + 1) l (e : Int) (x7 : Int) x8 (i : Int) b names attrs inner par cp = some (pushR (al m (m.el e)) l e (x7 + many (al m (m.el e)) l i) (firstI (al m (m.el e)) l x8 i)) := by
        intro b hb
        rw [decanterref14_Push.j1, wB i (by omega)]
        cases b with
        | true =>
          obtain ⟨c1, c2⟩ := m1 hb
          rw [if_pos rfl, wB x7 (by omega)]
          by_cases h80 : x8 < 0
          · rw [if_pos h80, ih (i + 1) q (x7 + 1) (i : Int) (by omega) (by omega) (by omega) (by omega) (fun h => by omega) (fun h => by omega), c1]
            have ef : firstI (al m (m.el e)) l (i : Int) (i + 1) = firstI (al m (m.el e)) l x8 i := by
              unfold firstI
              rw [if_neg (by omega), if_pos h80, if_neg (by omega), c2]
            rw [ef, show x7 + 1 + many (al m (m.el e)) l (i + 1) = x7 + (many (al m (m.el e)) l (i + 1) + 1) by omega]
          · rw [if_neg h80, ih (i + 1) q (x7 + 1) x8 (by omega) (by omega) (by omega) (by omega) (fun h => by omega) h9, c1]
            have ef : firstI (al m (m.el e)) l x8 (i + 1) = firstI (al m (m.el e)) l x8 i := by
              unfold firstI
              rw [if_neg h80, if_neg h80]
            rw [ef, show x7 + 1 + many (al m (m.el e)) l (i + 1) = x7 + (many (al m (m.el e)) l (i + 1) + 1) by omega]
        | false =>
          obtain ⟨c1, c2⟩ := m2 hb
          rw [if_neg (by decide), ih (i + 1) q x7 x8 (by omega) (by omega) (by omega) (by omega) h8 h9, c1]
          have ef : firstI (al m (m.el e)) l x8 (i + 1) = firstI (al m (m.el e)) l x8 i := by
            unfold firstI
            rw [c1, c2]
          rw [ef]
      rw [decanterref14_Push.l0, if_pos (by omega), if_pos (by omega), rdL hj, if_pos (by omega), if_pos (by omega), if_pos (by omega), if_pos (by omega), e1, e2]
      by_cases hne : (m.el j).name.toList = (m.el e).name.toList
      · rw [if_pos hne, if_pos (by omega), if_pos (by omega), e3, e4, ref_same _ _ (by omega) (q + 1) (by omega), Option.bind_some]
        refine j1 _ ?_
        rw [hal, decide_eq_true hne, Bool.true_and, hs]
      · rw [if_neg hne]
        refine j1 _ ?_
        rw [hal, decide_eq_false hne, Bool.false_and]
  have hN := markN_le l
  unfold decanterref14_Push.f
  rw [since_eq l hl k (by omega), Option.bind_some]
  have := loop (l.length - markN l) (markN l) k 0 (-1) (by omega) (Nat.le_refl _) (by omega) (Nat.zero_le _) (fun _ => rfl) (fun h => by omega)
  rw [Nat.zero_add] at this
  refine this.trans ?_
  unfold pushR firstI pushL
  by_cases h3 : 3 ≤ many (al m (m.el e)) l (markN l)
  · rw [if_pos h3, if_pos h3, if_pos (by omega), if_neg (by omega), Int.toNat_natCast]
  · rw [if_neg h3, if_neg h3]
theorem last_eq {m : M} {names : List ByteArray} {attrs : List (List S106)} (hR : Rel m names attrs) (inner : List (List S115)) (par : List Int) (cp : Int) (l : List Int) (hl : l.length ≤ 1000) (hx : ∀ x ∈ l, x = -1 ∨ ∃ i : Nat, x = (i : Int) ∧ i < m.elems.length)
    (nm : ByteArray) (k : Nat) (hk : 2 * l.length + 40 ≤ k) : decanterref14_Last.f k names attrs inner par cp l nm = some ((lastL m nm l).getD (-1)) := by
  have hln := hR.ln
  have hN := markN_le l
  have loop : ∀ n q : Nat, markN l + n ≤ l.length → n + l.length + 3 ≤ q → decanterref14_Last.l0 q l nm (((markN l + n : Nat) : Int) - 1) names attrs inner par cp = some ((lastL m nm (l.take (markN l + n))).getD (-1)) := by
    intro n
    induction n with
    | zero =>
      intro q hi hq
      obtain ⟨q, rfl⟩ : ∃ q', q = q' + 1 := ⟨q - 1, by omega⟩
      rw [decanterref14_Last.l0, since_eq l hl q (by omega), Option.bind_some, if_neg (by omega), Nat.add_zero]
      have e : lastL m nm (l.take (markN l)) = none := by
        cases hM : markN l with
        | zero => rfl
        | succ M' =>
          have hb := markN_eq l
          rw [hM] at hb
          have hlt : M' < l.length := by omega
          have hm : l[M'] = -1 := by
            rcases Classical.em (l[M'] = -1) with h | h
            · exact h
            · exfalso
              have h1 : markN (l.take (M' + 1)) ≤ M' := by
                rw [take_snoc_int (List.getElem?_eq_getElem hlt)]
                unfold markN
                rw [markAt_snoc, if_neg h]
                have := markAt_bounds (l.take M')
                rw [List.length_take] at this
                omega
              have h2 : ∀ j, M' < j → j < l.length → l[j]?.getD 0 ≠ -1 := fun j hj1 hj2 e => by
                have := markAt_max hj2 e
                omega
              have h3 : markAt l < (M' : Int) := by
                have h4 : ∀ n, M' + 1 + n ≤ l.length → markAt (l.take (M' + 1 + n)) < (M' : Int) := by
                  intro n
                  induction n with
                  | zero =>
                    intro _
                    have := markN_eq (l.take (M' + 1))
                    rw [Nat.add_zero]
                    omega
                  | succ n ih =>
                    intro hn
                    have hlt2 : M' + 1 + n < l.length := by omega
                    rw [show M' + 1 + (n + 1) = (M' + 1 + n) + 1 by omega, take_snoc_int (List.getElem?_eq_getElem hlt2), markAt_snoc, if_neg (by
                      have := h2 (M' + 1 + n) (by omega) hlt2
                      rwa [List.getElem?_eq_getElem hlt2, Option.getD_some] at this)]
                    exact ih (by omega)
                have := h4 (l.length - (M' + 1)) (by omega)
                rwa [show M' + 1 + (l.length - (M' + 1)) = l.length by omega, List.take_length] at this
              omega
          rw [take_snoc_int (List.getElem?_eq_getElem hlt), hm]
          exact lastL_mark _ _ _
      rw [e]
      rfl
    | succ n ih =>
      intro q hi hq
      obtain ⟨q, rfl⟩ : ∃ q', q = q' + 1 := ⟨q - 1, by omega⟩
      obtain ⟨j, hj, hjl⟩ := ent_at hx (by omega : markN l + n < l.length) (by omega)
      have e1 : (rdOf ByteArray.empty names (j : Int)) = (m.el j).name := hR.nm j hjl
      rw [show (((markN l + (n + 1) : Nat) : Int) - 1) = ((markN l + n : Nat) : Int) by omega, decanterref14_Last.l0, since_eq l hl q (by omega), Option.bind_some, if_pos (by omega), if_pos (by omega), if_pos (by omega), rdL hj, if_pos (by omega), if_pos (by omega), e1,
        show markN l + (n + 1) = (markN l + n) + 1 by omega, take_snoc_int hj, wS _ (by omega), ih q (by omega) (by omega)]
      unfold lastL
      have e5 : lastR m nm ((j : Int) :: (l.take (markN l + n)).reverse) = if (m.el j).name.toList = nm.toList then some (j : Int) else lastR m nm (l.take (markN l + n)).reverse := by
        rw [lastR, if_neg (by omega), Int.toNat_natCast]
      rw [List.reverse_append, List.reverse_singleton, List.singleton_append, e5]
      by_cases hq2 : (m.el j).name.toList = nm.toList
      · rw [if_pos hq2, if_pos hq2]
        rfl
      · rw [if_neg hq2, if_neg hq2]
  have := loop (l.length - markN l) k (by omega) (by omega)
  rw [show markN l + (l.length - markN l) = l.length by omega, List.take_length] at this
  unfold decanterref14_Last.f
  rw [wS _ (by omega)]
  exact this
def StR (w : World) (base g b : Nat) (m : M) (xs : List Int) (K : Nat → Prop) : Prop := ∃ nv ev vs lv, At w base g m nv ev vs ∧ LsAt w base b g lv xs ∧ (∀ k, Foot g nv ev vs k → k ≠ b ∧ lv.ownBlock ≠ some k) ∧
  ∀ k, K k → k < w.heap.size ∧ ¬ Foot g nv ev vs k ∧ k ≠ b ∧ lv.ownBlock ≠ some k
/-- Those blocks stay. -/
def Same (K : Nat → Prop) (w w' : World) : Prop := ∀ k, K k → w'.heap[k]? = w.heap[k]?
/-- .. and the new ones. -/
def Kn (K : Nat → Prop) (w w1 : World) (k : Nat) : Prop := K k ∨ (w.heap.size ≤ k ∧ k < w1.heap.size)
section
variable {w w1 w' : World} {base g b n : Nat} {m m' : M} {xs ys : List Int} {K : Nat → Prop}
theorem StR.st (h : StR w base g b m xs K) : St w base g b m xs := by
  obtain ⟨nv, ev, vs, lv, h1, h2, h3, h4⟩ := h
  exact ⟨nv, ev, vs, lv, h1, h2, h3⟩
theorem StR.of (h : St w base g b m xs) : StR w base g b m xs (fun k => k < base) := by
  have hle := h.base_le
  obtain ⟨nv, ev, vs, lv, h1, h2, h3⟩ := h
  refine ⟨nv, ev, vs, lv, h1, h2, h3, fun k hk => ⟨by omega, fun e => ?_, ?_, fun e => ?_⟩⟩
  · have := (h1.foot_lt k e).1
    omega
  · have := h2.le
    omega
  · have := (h2.row.lt k e).1
    omega
theorem StR.lt (h : StR w base g b m xs K) : ∀ k, K k → k < w.heap.size := by
  obtain ⟨nv, ev, vs, lv, h1, h2, h3, h4⟩ := h
  exact fun k hk => (h4 k hk).1
theorem StR.below (h : StR w base g b m xs K) (hb : Below w.heap.size w w1) : StR w1 base g b m xs (Kn K w w1) := by
  obtain ⟨nv, ev, vs, lv, h1, h2, h3, h4⟩ := h
  refine ⟨nv, ev, vs, lv, h1.below hb, h2.below hb, h3, fun k hk => ?_⟩
  rcases hk with hk | ⟨hk1, hk2⟩
  · have := h4 k hk
    exact ⟨Nat.lt_of_lt_of_le this.1 hb.size, this.2⟩
  · exact ⟨hk2, fun e => by have := (h1.foot_lt k e).2; omega, fun e => by have := h2.lt; omega, fun e => by have := (h2.row.lt k e).2; omega⟩
theorem Same.below (h : StR w base g b m xs K) (hb : Below w.heap.size w w1) : Same K w w1 := fun k hk => hb.block k (h.lt k hk)
theorem StR.left {nv ev lv : Value} {vs : List NV} (h1 : At w base g m nv ev vs) (h2 : LsAt w base b g lv xs) (h3 : ∀ k, Foot g nv ev vs k → k ≠ b ∧ lv.ownBlock ≠ some k)
    (h4 : ∀ k, K k → k < w.heap.size ∧ ¬ Foot g nv ev vs k ∧ k ≠ b ∧ lv.ownBlock ≠ some k) (hL : Left w base g m' nv ev vs w') : StR w' base g b m' xs K ∧ Below base w w' ∧ Same K w w' := by
  obtain ⟨nv', ev', vs', a1, a2, a3⟩ := hL
  refine ⟨⟨nv', ev', vs', lv, a1, ⟨(a3.block b h2.lt (fun e => (h3 b e).1 rfl)).trans h2.hb, h2.le, h2.row.move fun k hk => a3.block k (h2.row.lt k hk).2 (fun e => (h3 k e).2 hk)⟩, fun k hk => ?_, fun k hk => ⟨Nat.lt_of_lt_of_le (h4 k hk).1 a3.size, fun e => ?_, (h4 k hk).2.2⟩⟩,
    a3.below (Nat.le_trans h2.le (Nat.le_of_lt h2.lt)) fun k hk => (h1.foot_lt k hk).1, fun k hk => a3.block k (h4 k hk).1 (h4 k hk).2.1⟩
  · rcases a2 k hk with e | e
    · exact h3 k e
    · exact ⟨fun e' => by have := h2.lt; omega, fun e' => by have := (h2.row.lt k e').2; omega⟩
  · rcases a2 k e with e | e
    · exact (h4 k hk).2.1 e
    · have := (h4 k hk).1
      omega
theorem StR.post {nv ev lv : Value} {vs : List NV} (h1 : At w base g m nv ev vs) (h2 : LsAt w base b g lv xs) (h3 : ∀ k, Foot g nv ev vs k → k ≠ b ∧ lv.ownBlock ≠ some k)
    (h4 : ∀ k, K k → k < w.heap.size ∧ ¬ Foot g nv ev vs k ∧ k ≠ b ∧ lv.ownBlock ≠ some k) (hL : LsPost w base b g lv ys w') : StR w' base g b m ys K ∧ Below base w w' ∧ Same K w w' := by
  obtain ⟨_, hB⟩ := St.post h1 h2 h3 hL
  obtain ⟨lv', a1, a2, a3⟩ := hL
  refine ⟨⟨nv, ev, vs, lv', h1.keep a3 (fun k hk => ⟨fun e => ?_, h2.typed k hk⟩), a1, fun k hk => ⟨(h3 k hk).1, fun e => ?_⟩, fun k hk => ⟨Nat.lt_of_lt_of_le (h4 k hk).1 a3.size, (h4 k hk).2.1, (h4 k hk).2.2.1, fun e => ?_⟩⟩, hB, fun k hk => a3.block k (h4 k hk).1 (fun e => ?_)⟩
  · rcases hk with e' | e'
    · exact (h3 k e).1 e'
    · exact (h3 k e).2 e'
  · rcases a2 k e with e' | e'
    · exact (h3 k hk).2 e'
    · have := (h1.foot_lt k hk).2
      omega
  · rcases a2 k e with e' | e'
    · exact (h4 k hk).2.2.2 e'
    · have := (h4 k hk).1
      omega
  · rcases e with e | e
    · exact (h4 k hk).2.2.1 e
    · exact (h4 k hk).2.2.2 e
theorem str_element (h : StR w base g b m xs K) (gd : Gd m xs n) (hn : n ≤ 99999) (name : ByteArray) (A0 : Option Addr) (c0 : Nat) (attrs : List S105) (hC : Kd.C k105 w A0 attrs.length attrs) (hc : attrs.length ≤ c0) (hl : attrs.length < 1000000) :
    Calls Try.prog 19 #[.pointer (some ⟨g, 0, none⟩), .string name, .slice A0 attrs.length c0] w fun e w' => e = .returned (.int .i64 (m.elems.length : Int)) ∧ StR w' base g b (m.element name attrs) xs K ∧ Below base w w' ∧ Same K w w' := by
  obtain ⟨nv, ev, vs, lv, h1, h2, h3, h4⟩ := h
  refine (element_calls h1 name A0 c0 attrs hC hc (by omega) (Nat.le_trans h2.le (Nat.le_of_lt h2.lt)) (by have := gd.nodes; omega) (by have := gd.elems; omega)).mono ?_
  rintro e w' ⟨rfl, hL⟩
  exact ⟨rfl, StR.left h1 h2 h3 h4 hL⟩
theorem str_push (h : StR w base g b m xs K) (gd : Gd m xs n) (hn : n ≤ 99999) (e : Nat) (he : e < m.elems.length) :
    Calls Try.prog 32 #[.pointer (some ⟨b, 0, none⟩), .int .i64 (e : Int)] w fun en w' => en = .returned (.tuple #[]) ∧ StR w' base g b m (pushL m xs e) K ∧ Below base w w' ∧ Same K w w' := by
  obtain ⟨nv, ev, vs, lv, h1, h2, h3, h4⟩ := h
  refine (push_calls h1 gd.els h2 gd.ent (by have := gd.len; omega) (Nat.le_trans h2.le (Nat.le_of_lt h2.lt)) e he).mono ?_
  rintro en w' ⟨rfl, hL⟩
  exact ⟨rfl, StR.post h1 h2 h3 h4 hL⟩
theorem str_mark (h : StR w base g b m xs K) (gd : Gd m xs n) (hn : n ≤ 99999) :
    Calls Try.prog 53 #[.pointer (some ⟨b, 0, none⟩)] w fun en w' => en = .returned (.tuple #[]) ∧ StR w' base g b m (xs ++ [-1]) K ∧ Below base w w' ∧ Same K w w' := by
  obtain ⟨nv, ev, vs, lv, h1, h2, h3, h4⟩ := h
  refine (lmark_calls h2 (Nat.le_trans h2.le (Nat.le_of_lt h2.lt)) (by have := gd.len; omega)).mono ?_
  rintro en w' ⟨rfl, hL⟩
  exact ⟨rfl, StR.post h1 h2 h3 h4 hL⟩
theorem str_clear (h : StR w base g b m xs K) (gd : Gd m xs n) (hn : n ≤ 99999) :
    Calls Try.prog 56 #[.pointer (some ⟨b, 0, none⟩)] w fun en w' => en = .returned (.tuple #[]) ∧ StR w' base g b m (xs.take (clearN xs)) K ∧ Below base w w' ∧ Same K w w' := by
  obtain ⟨nv, ev, vs, lv, h1, h2, h3, h4⟩ := h
  refine (clear_calls h2 (by have := gd.len; omega)).mono ?_
  rintro en w' ⟨rfl, hL⟩
  exact ⟨rfl, StR.post h1 h2 h3 h4 hL⟩
theorem str_insert (h : StR w base g b m xs K) (gd : Gd m xs n) (hn : n ≤ 99999) (i : Nat) (hi : i ≤ xs.length) (y : Int) :
    Calls Try.prog 57 #[.pointer (some ⟨b, 0, none⟩), .int .i64 (i : Int), .int .i64 y] w fun en w' => en = .returned (.tuple #[]) ∧ StR w' base g b m (insL xs i y) K ∧ Below base w w' ∧ Same K w w' := by
  obtain ⟨nv, ev, vs, lv, h1, h2, h3, h4⟩ := h
  refine (insert_calls h2 (by have := gd.len; omega) (Nat.le_trans h2.le (Nat.le_of_lt h2.lt)) i hi y).mono ?_
  rintro en w' ⟨rfl, hL⟩
  exact ⟨rfl, StR.post h1 h2 h3 h4 hL⟩
theorem str_replace (h : StR w base g b m xs K) (gd : Gd m xs n) (hn : n ≤ 99999) (x y : Int) :
    Calls Try.prog 58 #[.pointer (some ⟨b, 0, none⟩), .int .i64 x, .int .i64 y] w fun en w' => en = .returned (.tuple #[]) ∧ StR w' base g b m (putL xs x y) K ∧ Below base w w' ∧ Same K w w' := by
  obtain ⟨nv, ev, vs, lv, h1, h2, h3, h4⟩ := h
  refine (replace_calls h2 (by have := gd.len; omega) x y).mono ?_
  rintro en w' ⟨rfl, hL⟩
  exact ⟨rfl, StR.post h1 h2 h3 h4 hL⟩
theorem str_remove (h : StR w base g b m xs K) (gd : Gd m xs n) (hn : n ≤ 99999) (x : Int) :
    Calls Try.prog 59 #[.pointer (some ⟨b, 0, none⟩), .int .i64 x] w fun en w' => en = .returned (.tuple #[]) ∧ StR w' base g b m (outL xs x) K ∧ Below base w w' ∧ Same K w w' := by
  obtain ⟨nv, ev, vs, lv, h1, h2, h3, h4⟩ := h
  refine (remove_calls h2 (by have := gd.len; omega) x).mono ?_
  rintro en w' ⟨rfl, hL⟩
  exact ⟨rfl, StR.post h1 h2 h3 h4 hL⟩
theorem str_last (h : StR w base g b m xs K) (gd : Gd m xs n) (hn : n ≤ 99999) (nm : ByteArray) :
    Calls Try.prog 54 #[.pointer (some ⟨b, 0, none⟩), .string nm] w fun e w' => e = .returned (.tuple #[.int .i64 (lastV m nm xs), .bool (lastB m nm xs)]) ∧ Below w.heap.size w w' := by
  obtain ⟨nv, ev, vs, lv, h1, h2, h3, h4⟩ := h
  exact last_calls h1 gd.els h2 gd.ent (by have := gd.len; omega) nm
end
/-- Each element is there once. -/
def U (xs : List Int) : Prop := (xs.filter (fun x => decide (x ≠ -1))).Nodup
theorem U.nil : U [] := List.nodup_nil
theorem U.sub {xs ys : List Int} (h : U xs) (hs : ys.Sublist xs) : U ys := List.Nodup.sublist (hs.filter _) h
theorem U.mark {xs : List Int} (h : U xs) : U (xs ++ [-1]) := by
  unfold U
  rw [List.filter_append]
  simpa [U] using h
theorem U.ins {xs : List Int} (h : U xs) (i : Nat) (e : Int) (he : e ∉ xs) : U (insL xs i e) := by
  have hp : (insL xs i e).Perm (e :: xs) := by
    unfold insL
    refine List.perm_middle.trans (List.Perm.cons _ ?_)
    rw [List.take_append_drop]
  unfold U at h ⊢
  refine (List.Perm.nodup_iff (hp.filter _)).2 ?_
  rw [List.filter_cons]
  split
  · exact List.nodup_cons.2 ⟨fun hin => he (List.mem_filter.1 hin).1, h⟩
  · exact h
theorem U.snoc {xs : List Int} (h : U xs) (e : Int) (he : e ∉ xs) : U (xs ++ [e]) := by
  have := h.ins xs.length e he
  rwa [insL_end] at this
theorem cut_sub (xs : List Int) (i : Nat) : (xs.take i ++ xs.drop (i + 1)).Sublist xs := by
  have h : (xs.drop (i + 1)).Sublist (xs.drop i) := by
    rw [← List.drop_drop]
    exact List.drop_sublist _ _
  have := (List.Sublist.refl (xs.take i)).append h
  rwa [List.take_append_drop] at this
theorem U.push {m : M} {xs : List Int} (h : U xs) (e : Nat) (he : (e : Int) ∉ xs) : U (pushL m xs e) := by
  unfold pushL
  split
  · exact (h.sub (cut_sub xs _)).snoc _ (fun hin => he ((cut_sub xs _).mem hin))
  · exact h.snoc _ he
theorem U.find {xs : List Int} (h : U xs) {i : Nat} {x : Int} (hx : xs[i]? = some x) (h1 : x ≠ -1) : findL xs x = (i : Int) := by
  obtain ⟨hi, hxi⟩ := List.getElem?_eq_some_iff.1 hx
  unfold findL
  rw [if_neg h1]
  have := Lib.idxFrom_hit x xs i 0 hi (by rw [List.getD_eq_getElem?_getD, hx, Option.getD_some]) (fun j hj e => by
    have e1 : xs = xs.take i ++ x :: xs.drop (i + 1) := by rw [← hxi, ← List.drop_eq_getElem_cons hi, List.take_append_drop]
    have e2 : x ∈ xs.take i := by
      have hjl : j < (xs.take i).length := by rw [List.length_take]; omega
      have : (xs.take i)[j] = x := by
        rw [List.getElem_take]
        rw [List.getD_eq_getElem?_getD, List.getElem?_eq_getElem (by omega), Option.getD_some] at e
        exact e
      rw [← this]
      exact List.getElem_mem hjl
    unfold U at h
    rw [e1, List.filter_append, List.filter_cons, if_pos (by simpa using h1)] at h
    have h2 := List.nodup_append.1 h
    exact h2.2.2 x (List.mem_filter.2 ⟨e2, by simpa using h1⟩) x (List.mem_cons_self ..) rfl)
  rw [Nat.zero_add] at this
  exact this
theorem U.out {xs : List Int} (h : U xs) {i : Nat} {x : Int} (hx : xs[i]? = some x) (h1 : x ≠ -1) : outL xs x = xs.take i ++ xs.drop (i + 1) := by
  unfold outL
  rw [h.find hx h1, if_pos (by omega), Int.toNat_natCast]
theorem U.put {xs : List Int} (h : U xs) {i : Nat} {x : Int} (hx : xs[i]? = some x) (h1 : x ≠ -1) (e : Int) : putL xs x e = insL (xs.take i ++ xs.drop (i + 1)) i e := by
  unfold putL
  rw [h.find hx h1, if_pos (by omega), Int.toNat_natCast]
  obtain ⟨hi, hxi⟩ := List.getElem?_eq_some_iff.1 hx
  unfold insL
  have tl : (xs.take i).length = i := by rw [List.length_take]; omega
  rw [List.take_append, List.drop_append, tl, Nat.sub_self, List.take_zero, List.drop_zero, List.append_nil, List.take_of_length_le (by omega), List.drop_of_length_le (by omega), List.nil_append]
  exact List.set_eq_take_append_cons_drop.trans (by rw [if_pos hi])
theorem putL_miss {xs : List Int} {x y : Int} (h : x ∉ xs) : putL xs x y = xs := by
  unfold putL
  rw [findL_miss h, if_neg (by omega)]
theorem Gd.change {m : M} {xs ys : List Int} {n n' : Nat} (h : Gd m xs n) (hy : ∀ y ∈ ys, y ∈ xs ∨ ∃ i : Nat, y = (i : Int) ∧ i < m.elems.length) (hl : ys.length ≤ n') (hn : n ≤ n') : Gd m ys n' where
  els := h.els
  ent := fun y hy' => (hy y hy').elim (h.ent y) .inr
  nodes := Nat.le_trans h.nodes hn
  elems := Nat.le_trans h.elems hn
  len := hl
/-- A row that is read as long as some blocks stay. -/
def RowF {α : Type} (d : Kd α) (W : World) (ok : Nat → Prop) (v : Value) (xs : List α) : Prop := ∃ A c, v = .slice A xs.length c ∧ xs.length ≤ c ∧ Kd.F d W ok A xs.length xs
section
variable {α : Type} {d : Kd α} {W W1 : World} {ok ok' : Nat → Prop} {v : Value} {xs : List α} {e base : Nat}
theorem RowF.step (h : RowF d W ok v xs) (hm : ∀ k, ok k → k < W.heap.size → W1.heap[k]? = W.heap[k]?) : RowF d W1 ok v xs := by
  obtain ⟨A, c, h1, h2, h3⟩ := h
  exact ⟨A, c, h1, h2, Kd.F_step h3 hm⟩
theorem RowF.mono (h : RowF d W ok v xs) (hok : ∀ k, ok k → ok' k) : RowF d W ok' v xs := by
  obtain ⟨A, c, h1, h2, h3⟩ := h
  exact ⟨A, c, h1, h2, Kd.F_mono h3 hok⟩
theorem RowF.bound (h : RowF d W ok v xs) : RowF d W (fun k => ok k ∧ k < W.heap.size) v xs := by
  obtain ⟨A, c, h1, h2, h3⟩ := h
  exact ⟨A, c, h1, h2, Kd.F_bound h3⟩
theorem RowF.below (h : RowF d W ok v xs) (hb : Below W.heap.size W W1) : RowF d W1 ok v xs := h.step fun k _ hk => hb.block k hk
theorem RowF.of_N (h : Kd.N d e W base ok v xs) : RowF d W ok v xs := by
  obtain ⟨A, c, h1, h2, _⟩ := Kd.N_reads h
  subst h1
  exact ⟨A, c, rfl, h2, Kd.N_F h⟩
theorem RowF.of_R (h : Kd.R d e W base ok v xs) : RowF d W ok v xs := by
  obtain ⟨A, c, h1, h2, _⟩ := Kd.R_reads h
  subst h1
  exact ⟨A, c, rfl, h2, Kd.R_F h⟩
theorem RowF.of_S (h : Kd.S d e W base ok v xs) : RowF d W ok v xs := RowF.of_N (Kd.S_N h)
theorem RowF.of_C {A : Option Addr} {c : Nat} (hd : Kd.Heap d) (h : Kd.C d W A xs.length xs) (hc : xs.length ≤ c) : RowF d W (fun k => k < W.heap.size) (.slice A xs.length c) xs := ⟨A, c, rfl, hc, Kd.C_F hd h⟩
theorem RowF.now (h : RowF d W ok v xs) : ∃ A c, v = .slice A xs.length c ∧ xs.length ≤ c ∧ Kd.C d W A xs.length xs := by
  obtain ⟨A, c, h1, h2, h3⟩ := h
  exact ⟨A, c, h1, h2, Kd.F_now h3⟩
end
theorem heap106 : Kd.Heap k106 := Kd.heap_iso _ (Kd.heap_pair Kd.heap_string Kd.heap_string)
/-- The document's arena. -/
structure Rm where
  names : List ByteArray
  attrs : List (List S106)
  inner : List (List S115)
  par : List Int
  copies : Int
def Rm.element (R : Rm) (name : ByteArray) (a : List S106) : Rm := ⟨R.names ++ [name], R.attrs ++ [a], R.inner ++ [[]], R.par ++ [-1], R.copies⟩
/-- Its rows. -/
structure RA (W : World) (ok : Nat → Prop) (u0 u1 u2 u3 : Value) (R : Rm) : Prop where
  r0 : RowF Kd.string W ok u0 R.names
  r1 : RowF (Kd.slice 106 k106) W ok u1 R.attrs
  r2 : RowF (Kd.slice 115 k115) W ok u2 R.inner
  r3 : RowF (Kd.int .i64) W ok u3 R.par
theorem RA.step {W W1 : World} {ok : Nat → Prop} {u0 u1 u2 u3 : Value} {R : Rm} (h : RA W ok u0 u1 u2 u3 R) (hm : ∀ k, ok k → k < W.heap.size → W1.heap[k]? = W.heap[k]?) : RA W1 ok u0 u1 u2 u3 R := ⟨h.r0.step hm, h.r1.step hm, h.r2.step hm, h.r3.step hm⟩
theorem RA.mono {W : World} {ok ok' : Nat → Prop} {u0 u1 u2 u3 : Value} {R : Rm} (h : RA W ok u0 u1 u2 u3 R) (hok : ∀ k, ok k → ok' k) : RA W ok' u0 u1 u2 u3 R := ⟨h.r0.mono hok, h.r1.mono hok, h.r2.mono hok, h.r3.mono hok⟩
theorem infoS : (Try.prog.info? 9).map (fun i => (i.zero, i.size, i.bytes)) = some (some (.string ⟨#[]⟩), 1, 16) := by kernel_rfl
theorem info36 : (Try.prog.info? 36).map (fun i => (i.zero, i.size, i.bytes)) = some (some (.slice none 0 0), 1, 24) := by kernel_rfl
theorem info112 : (Try.prog.info? 112).map (fun i => (i.zero, i.size, i.bytes)) = some (some (.slice none 0 0), 1, 24) := by kernel_rfl
theorem N_lit {α : Type} (d : Kd α) (e : Nat) (w : World) (base : Nat) (hb : base ≤ w.heap.size) : Kd.N d e (w.alloc (.cells #[] e)) base (fun k => base ≤ k) (.slice (some ⟨w.heap.size, 0, none⟩) 0 0) [] :=
  Kd.R_N (Kd.R_lower ⟨fun k hk => by cases hk; exact hb, OwnRow.lit w w.heap.size (Reps.none _ _) (Nat.le_refl _) (by simp)⟩ hb)
theorem keep_two {w wa wb : World} {o : Obj} {va : Value} (hga : (w.alloc o).grownBy wa (some w.heap.size)) (hata : va.ownBlock = some w.heap.size ∨ ∃ b, va.ownBlock = some b ∧ (w.alloc o).heap.size ≤ b) (hgb : wa.grownBy wb va.ownBlock) (p : Addr) (u : Value) :
    ∀ k, k < w.heap.size → k ≠ p.block → (wb.setCell p u).heap[k]? = w.heap[k]? := fun k hk hp => by
  have h1 : k < (w.alloc o).heap.size := by rw [World.size_alloc]; omega
  have h2 : some k ≠ va.ownBlock := by
    rcases hata with e | ⟨b, e, hb⟩
    · rw [e]; intro e'; injection e' with e'; omega
    · rw [e]; intro e'; injection e' with e'; omega
  rw [Below.heap_setCell wb p u k hp, hgb.block k (Nat.lt_of_lt_of_le h1 hga.size) h2, hga.block k h1 (by intro e'; injection e' with e'; omega)]
  exact Below.heap_alloc w o k hk
set_option maxRecDepth 100000 in
set_option maxHeartbeats 8000000 in
theorem elem12_calls {W0 : World} {ok : Nat → Prop} {u0 u1 u2 u3 : Value} {R : Rm} (h : RA W0 ok u0 u1 u2 u3 R) (name : ByteArray) (A5 : Option Addr) (c5 : Nat) (a : List S106) (ha : Kd.F k106 W0 ok A5 a.length a) (hc5 : a.length ≤ c5)
    (hn : R.names.length ≤ 1000 ∧ R.attrs.length ≤ 1000 ∧ R.inner.length ≤ 1000 ∧ R.par.length ≤ 1000) :
    Calls Try.prog 38 #[.agg #[u0, u1, u2, u3, .int .i64 R.copies], .string name, .slice A5 a.length c5] W0 fun e w' => ∃ v0 v1 v2 v3, e = .returned (.tuple #[.agg #[v0, v1, v2, v3, .int .i64 R.copies], .int .i64 (R.names.length : Int)]) ∧
      RA w' (fun k => ok k ∨ W0.heap.size ≤ k) v0 v1 v2 v3 (R.element name a) ∧ Below W0.heap.size W0 w' := by
  obtain ⟨B0, d0, rfl, le0, f0⟩ := h.r0.bound
  obtain ⟨B1, d1, rfl, le1, f1⟩ := h.r1.bound
  obtain ⟨B2, d2, rfl, le2, f2⟩ := h.r2.bound
  obtain ⟨B3, d3, rfl, le3, f3⟩ := h.r3.bound
  have ha2 := Kd.F_bound ha
  have HF0 := Lib.hid f0
  have HF1 := Lib.hid f1
  have HF2 := Lib.hid f2
  have HF3 := Lib.hid f3
  have HFa := Lib.hid ha2
  have HN := Lib.hid hn
  obtain ⟨n0, n1, n2, n3⟩ := hn
  have hc5' := Lib.hid hc5
  clear h f0 f1 f2 f3 ha ha2 le0 le1 le2 le3 hc5
  go_enter Try.func38, Try.ntmps38
  go_upto_region 1 with (fail)
  have HB := Lib.hid (((Below.refl W0.heap.size W0).alloc (Nat.le_refl _) (.cells #[.slice B0 R.names.length d0, .slice B1 R.attrs.length d1, .slice B2 R.inner.length d2, .slice B3 R.par.length d3, .int .i64 R.copies] 62)).alloc (by simp) (.cells #[.slice none 0 0, .slice none 0 0, .slice none 0 0, .slice none 0 0, .int .i64 0] 62))
  have XB := Lib.hid (blk_alloc (blk_new W0 (.cells #[.slice B0 R.names.length d0, .slice B1 R.attrs.length d1, .slice B2 R.inner.length d2, .slice B3 R.par.length d3, .int .i64 R.copies] 62)) (.cells #[.slice none 0 0, .slice none 0 0, .slice none 0 0, .slice none 0 0, .int .i64 0] 62))
  have XR := Lib.hid (show ((W0.alloc (.cells #[.slice B0 R.names.length d0, .slice B1 R.attrs.length d1, .slice B2 R.inner.length d2, .slice B3 R.par.length d3, .int .i64 R.copies] 62)).alloc (.cells #[.slice none 0 0, .slice none 0 0, .slice none 0 0, .slice none 0 0, .int .i64 0] 62)).heap[W0.heap.size + 1]? = some (.cells #[.slice none 0 0, .slice none 0 0, .slice none 0 0, .slice none 0 0, .int .i64 0] 62 (0, 0)) by
    have := blk_new (W0.alloc (.cells #[.slice B0 R.names.length d0, .slice B1 R.attrs.length d1, .slice B2 R.inner.length d2, .slice B3 R.par.length d3, .int .i64 R.copies] 62)) (.cells #[.slice none 0 0, .slice none 0 0, .slice none 0 0, .slice none 0 0, .int .i64 0] 62)
    rwa [World.size_alloc] at this)
  generalize hw : (W0.alloc _).alloc _ = w1 at *
  clear hw
  have hs1 := Lib.hid (show W0.heap.size + 2 ≤ w1.heap.size from blk_lt XR.out)
  obtain ⟨y0, hy0⟩ : ∃ y, R.names ++ [name] = y := ⟨_, rfl⟩
  have HY0 := Lib.hid hy0
  clear hy0
  have NL := Lib.hid (Kd.N_mono (ok' := (fun k => (ok k ∧ k < W0.heap.size) ∨ W0.heap.size + 2 ≤ k)) (Kd.N_lower (N_lit Kd.string 9 w1 (W0.heap.size + 2) hs1.out) (Nat.le_add_right _ 2)) (fun k hk => .inr hk))
  have BL := Lib.hid (HB.out.alloc HB.out.size (.cells #[] 9))
  have XL := Lib.hid (blk_alloc XB.out (.cells #[] 9))
  have gl := blk_cell XL.out 0
  try simp only [List.getElem?_toArray, List.getElem?_cons_zero, List.getElem?_cons_succ] at gl
  go_upto_region 2 with (first
    | (refine Kd.N_append_rows Kd.string (w0 := W0) (W := w1.alloc (.cells #[] 9)) W0.heap.size rfl (.tmp 8) (.tmp 10) 49 9 (.string ⟨#[]⟩) 16 rfl Try.underlying49 infoS rfl (by decide) (by decide) (.slice (some ⟨w1.heap.size, 0, none⟩) 0 0) [] R.names B0 R.names.length d0 (fun k => (ok k ∧ k < W0.heap.size) ∨ W0.heap.size + 2 ≤ k) (fun k => ok k ∧ k < W0.heap.size) rfl rfl NL.out (Kd.F_below HF0.out BL.out) (fun k hk => ⟨.inl hk, fun e => by have := Kd.N_base NL.out k e.symm; omega⟩) (fun k hk => .inr (Nat.le_trans hs1.out (Nat.le_trans (by simp) hk))) BL.out BL.out.size (by simp; omega) ?_; intro va wa hna hba hga hata; rw [List.nil_append] at hna; have NA := Lib.hid hna; have BA := Lib.hid hba; have XA := Lib.hid (blk_grown XL.out hga (Kd.N_ne NL.out XL.out (by decide))); have GA := Lib.hid (And.intro hga hata); clear hna hba hga hata)
    | (refine Kd.N_append Kd.string (w0 := W0) (W := wa) W0.heap.size rfl (.tmp 11) (.tmp 13) 49 9 (.string ⟨#[]⟩) 16 rfl Try.underlying49 infoS rfl (by decide) (by decide) va R.names name [.string name] (fun k => (ok k ∧ k < W0.heap.size) ∨ W0.heap.size + 2 ≤ k) (fun _ => False) rfl (by first | (go_simp; done) | (go_simp; rfl)) (Kd.FK_of_M (base := 0) (ok := fun _ => False) rfl) (fun _ hk => hk.elim) (fun k hk => .inr (Nat.le_trans hs1.out (Nat.le_trans (by simp) (Nat.le_trans GA.out.1.size hk)))) NA.out BA.out BA.out.size (by omega) ?_; intro v1 wb hnb hbb hgb _; rw [HY0.out] at hnb; obtain ⟨A10, k10, rfl⟩ := Kd.N_slice hnb; have NB := Lib.hid hnb; have BB := Lib.hid hbb; have XBB := Lib.hid (blk_grown XA.out hgb (Kd.N_ne NA.out XA.out (by decide))); have GB := Lib.hid hgb; have gs := blk_cell XBB.out 0; have gf := blk_frozen XBB.out 0; clear hnb hbb hgb))
  have KP := Lib.hid (keep_two GA.out.1 GA.out.2 GB.out ⟨W0.heap.size, 0, none⟩ (.slice A10 y0.length k10))
  have HB2 := Lib.hid (BB.out.setCell (p := ⟨W0.heap.size, 0, none⟩) (Nat.le_refl _) (.slice A10 y0.length k10))
  have XB2 := Lib.hid (show (wb.setCell ⟨W0.heap.size, 0, none⟩ (.slice A10 y0.length k10)).heap[W0.heap.size]? = some (.cells #[(.slice A10 y0.length k10), (.slice B1 R.attrs.length d1), (.slice B2 R.inner.length d2), (.slice B3 R.par.length d3), (.int .i64 R.copies)] 62 (0, 0)) from blk_put XBB.out 0 (.slice A10 y0.length k10) rfl)
  have XR2 := Lib.hid ((KP.out (W0.heap.size + 1) (blk_lt XR.out) (by simp)).trans XR.out)
  have PR0 := Lib.hid (RowF.step (W1 := wb.setCell ⟨W0.heap.size, 0, none⟩ (.slice A10 y0.length k10)) (RowF.of_N NB.out) fun k hk _ => Below.heap_setCell wb _ _ k (fun e => by simp only at e; rcases hk with hk | hk <;> omega))
  have hs2 := Lib.hid (show W0.heap.size + 2 ≤ (wb.setCell ⟨W0.heap.size, 0, none⟩ (.slice A10 y0.length k10)).heap.size from blk_lt XR2.out)
  generalize hw2 : wb.setCell ⟨W0.heap.size, 0, none⟩ (.slice A10 y0.length k10) = w2 at *
  clear hw2 KP NB BB XBB GA GB NA BA XA NL BL XL gl gs gf HB XB XR
  have HB := HB2
  have XB := XB2
  have XR := XR2
  clear HB2 XB2 XR2
  obtain ⟨y1, hy1⟩ : ∃ y, R.attrs ++ [a] = y := ⟨_, rfl⟩
  have HY1 := Lib.hid hy1
  clear hy1
  have NL := Lib.hid (Kd.N_mono (ok' := (fun k => (ok k ∧ k < W0.heap.size) ∨ W0.heap.size + 2 ≤ k)) (Kd.N_lower (N_lit (Kd.slice 106 k106) 36 w2 (W0.heap.size + 2) hs2.out) (Nat.le_add_right _ 2)) (fun k hk => .inr hk))
  have BL := Lib.hid (HB.out.alloc HB.out.size (.cells #[] 36))
  have XL := Lib.hid (blk_alloc XB.out (.cells #[] 36))
  have gl := blk_cell XL.out 1
  try simp only [List.getElem?_toArray, List.getElem?_cons_zero, List.getElem?_cons_succ] at gl
  go_upto_region 3 with (first
    | (refine Kd.N_append_rows (Kd.slice 106 k106) (w0 := W0) (W := w2.alloc (.cells #[] 36)) W0.heap.size rfl (.tmp 16) (.tmp 18) 59 36 (.slice none 0 0) 24 rfl Try.underlying59 info36 rfl (by decide) (by decide) (.slice (some ⟨w2.heap.size, 0, none⟩) 0 0) [] R.attrs B1 R.attrs.length d1 (fun k => (ok k ∧ k < W0.heap.size) ∨ W0.heap.size + 2 ≤ k) (fun k => ok k ∧ k < W0.heap.size) rfl rfl NL.out (Kd.F_below HF1.out BL.out) (fun k hk => ⟨.inl hk, fun e => by have := Kd.N_base NL.out k e.symm; omega⟩) (fun k hk => .inr (Nat.le_trans hs2.out (Nat.le_trans (by simp) hk))) BL.out BL.out.size (by simp; omega) ?_; intro va wa hna hba hga hata; rw [List.nil_append] at hna; have NA := Lib.hid hna; have BA := Lib.hid hba; have XA := Lib.hid (blk_grown XL.out hga (Kd.N_ne NL.out XL.out (by decide))); have GA := Lib.hid (And.intro hga hata); clear hna hba hga hata)
    | (refine Kd.N_append (Kd.slice 106 k106) (w0 := W0) (W := wa) W0.heap.size rfl (.tmp 19) (.tmp 21) 59 36 (.slice none 0 0) 24 rfl Try.underlying59 info36 rfl (by decide) (by decide) va R.attrs a [.slice A5 a.length c5] (fun k => (ok k ∧ k < W0.heap.size) ∨ W0.heap.size + 2 ≤ k) (fun k => ok k ∧ k < W0.heap.size) rfl (by first | (go_simp; done) | (go_simp; rfl)) (Foot.imp (Kd.F_below HFa.out BA.out) fun W' hC => ⟨A5, c5, rfl, hc5'.out, hC⟩) (fun k hk => ⟨.inl hk, fun e => by have := Kd.N_base NA.out k e.symm; omega⟩) (fun k hk => .inr (Nat.le_trans hs2.out (Nat.le_trans (by simp) (Nat.le_trans GA.out.1.size hk)))) NA.out BA.out BA.out.size (by omega) ?_; intro v2 wb hnb hbb hgb _; rw [HY1.out] at hnb; obtain ⟨A11, k11, rfl⟩ := Kd.N_slice hnb; have NB := Lib.hid hnb; have BB := Lib.hid hbb; have XBB := Lib.hid (blk_grown XA.out hgb (Kd.N_ne NA.out XA.out (by decide))); have GB := Lib.hid hgb; have gs := blk_cell XBB.out 1; have gf := blk_frozen XBB.out 1; clear hnb hbb hgb))
  have KP := Lib.hid (keep_two GA.out.1 GA.out.2 GB.out ⟨W0.heap.size, 1, none⟩ (.slice A11 y1.length k11))
  have HB2 := Lib.hid (BB.out.setCell (p := ⟨W0.heap.size, 1, none⟩) (Nat.le_refl _) (.slice A11 y1.length k11))
  have XB2 := Lib.hid (show (wb.setCell ⟨W0.heap.size, 1, none⟩ (.slice A11 y1.length k11)).heap[W0.heap.size]? = some (.cells #[(.slice A10 y0.length k10), (.slice A11 y1.length k11), (.slice B2 R.inner.length d2), (.slice B3 R.par.length d3), (.int .i64 R.copies)] 62 (0, 0)) from blk_put XBB.out 1 (.slice A11 y1.length k11) rfl)
  have XR2 := Lib.hid ((KP.out (W0.heap.size + 1) (blk_lt XR.out) (by simp)).trans XR.out)
  replace PR0 := Lib.hid (PR0.out.bound.step fun k hk _ => KP.out k hk.2 (fun e => by simp only at e; rcases hk.1 with h | h <;> omega))
  have PR1 := Lib.hid (RowF.step (W1 := wb.setCell ⟨W0.heap.size, 1, none⟩ (.slice A11 y1.length k11)) (RowF.of_N NB.out) fun k hk _ => Below.heap_setCell wb _ _ k (fun e => by simp only at e; rcases hk with hk | hk <;> omega))
  have hs3 := Lib.hid (show W0.heap.size + 2 ≤ (wb.setCell ⟨W0.heap.size, 1, none⟩ (.slice A11 y1.length k11)).heap.size from blk_lt XR2.out)
  generalize hw3 : wb.setCell ⟨W0.heap.size, 1, none⟩ (.slice A11 y1.length k11) = w3 at *
  clear hw3 KP NB BB XBB GA GB NA BA XA NL BL XL gl gs gf HB XB XR
  have HB := HB2
  have XB := XB2
  have XR := XR2
  clear HB2 XB2 XR2
  obtain ⟨y2, hy2⟩ : ∃ y, R.inner ++ [([] : List S115)] = y := ⟨_, rfl⟩
  have HY2 := Lib.hid hy2
  clear hy2
  have NL := Lib.hid (Kd.N_mono (ok' := (fun k => (ok k ∧ k < W0.heap.size) ∨ W0.heap.size + 2 ≤ k)) (Kd.N_lower (N_lit (Kd.slice 115 k115) 112 w3 (W0.heap.size + 2) hs3.out) (Nat.le_add_right _ 2)) (fun k hk => .inr hk))
  have BL := Lib.hid (HB.out.alloc HB.out.size (.cells #[] 112))
  have XL := Lib.hid (blk_alloc XB.out (.cells #[] 112))
  have gl := blk_cell XL.out 2
  try simp only [List.getElem?_toArray, List.getElem?_cons_zero, List.getElem?_cons_succ] at gl
  go_upto_region 4 with (first
    | (refine Kd.N_append_rows (Kd.slice 115 k115) (w0 := W0) (W := w3.alloc (.cells #[] 112)) W0.heap.size rfl (.tmp 24) (.tmp 26) 60 112 (.slice none 0 0) 24 rfl Try.underlying60 info112 rfl (by decide) (by decide) (.slice (some ⟨w3.heap.size, 0, none⟩) 0 0) [] R.inner B2 R.inner.length d2 (fun k => (ok k ∧ k < W0.heap.size) ∨ W0.heap.size + 2 ≤ k) (fun k => ok k ∧ k < W0.heap.size) rfl rfl NL.out (Kd.F_below HF2.out BL.out) (fun k hk => ⟨.inl hk, fun e => by have := Kd.N_base NL.out k e.symm; omega⟩) (fun k hk => .inr (Nat.le_trans hs3.out (Nat.le_trans (by simp) hk))) BL.out BL.out.size (by simp; omega) ?_; intro va wa hna hba hga hata; rw [List.nil_append] at hna; have NA := Lib.hid hna; have BA := Lib.hid hba; have XA := Lib.hid (blk_grown XL.out hga (Kd.N_ne NL.out XL.out (by decide))); have GA := Lib.hid (And.intro hga hata); clear hna hba hga hata)
    | (refine Kd.N_append (Kd.slice 115 k115) (w0 := W0) (W := wa) W0.heap.size rfl (.tmp 27) (.tmp 28) 60 112 (.slice none 0 0) 24 rfl Try.underlying60 info112 rfl (by decide) (by decide) va R.inner ([] : List S115) [.slice none 0 0] (fun k => (ok k ∧ k < W0.heap.size) ∨ W0.heap.size + 2 ≤ k) (fun _ => False) rfl (by first | (go_simp; done) | (go_simp; rfl)) (fun W' _ => ⟨none, 0, rfl, Nat.le_refl _, Kd.C_nil _ _⟩) (fun _ hk => hk.elim) (fun k hk => .inr (Nat.le_trans hs3.out (Nat.le_trans (by simp) (Nat.le_trans GA.out.1.size hk)))) NA.out BA.out BA.out.size (by omega) ?_; intro v3 wb hnb hbb hgb _; rw [HY2.out] at hnb; obtain ⟨A12, k12, rfl⟩ := Kd.N_slice hnb; have NB := Lib.hid hnb; have BB := Lib.hid hbb; have XBB := Lib.hid (blk_grown XA.out hgb (Kd.N_ne NA.out XA.out (by decide))); have GB := Lib.hid hgb; have gs := blk_cell XBB.out 2; have gf := blk_frozen XBB.out 2; clear hnb hbb hgb))
  have KP := Lib.hid (keep_two GA.out.1 GA.out.2 GB.out ⟨W0.heap.size, 2, none⟩ (.slice A12 y2.length k12))
  have HB2 := Lib.hid (BB.out.setCell (p := ⟨W0.heap.size, 2, none⟩) (Nat.le_refl _) (.slice A12 y2.length k12))
  have XB2 := Lib.hid (show (wb.setCell ⟨W0.heap.size, 2, none⟩ (.slice A12 y2.length k12)).heap[W0.heap.size]? = some (.cells #[(.slice A10 y0.length k10), (.slice A11 y1.length k11), (.slice A12 y2.length k12), (.slice B3 R.par.length d3), (.int .i64 R.copies)] 62 (0, 0)) from blk_put XBB.out 2 (.slice A12 y2.length k12) rfl)
  have XR2 := Lib.hid ((KP.out (W0.heap.size + 1) (blk_lt XR.out) (by simp)).trans XR.out)
  replace PR0 := Lib.hid (PR0.out.bound.step fun k hk _ => KP.out k hk.2 (fun e => by simp only at e; rcases hk.1 with h | h <;> omega))
  replace PR1 := Lib.hid (PR1.out.bound.step fun k hk _ => KP.out k hk.2 (fun e => by simp only at e; rcases hk.1 with h | h <;> omega))
  have PR2 := Lib.hid (RowF.step (W1 := wb.setCell ⟨W0.heap.size, 2, none⟩ (.slice A12 y2.length k12)) (RowF.of_N NB.out) fun k hk _ => Below.heap_setCell wb _ _ k (fun e => by simp only at e; rcases hk with hk | hk <;> omega))
  have hs4 := Lib.hid (show W0.heap.size + 2 ≤ (wb.setCell ⟨W0.heap.size, 2, none⟩ (.slice A12 y2.length k12)).heap.size from blk_lt XR2.out)
  generalize hw4 : wb.setCell ⟨W0.heap.size, 2, none⟩ (.slice A12 y2.length k12) = w4 at *
  clear hw4 KP NB BB XBB GA GB NA BA XA NL BL XL gl gs gf HB XB XR
  have HB := HB2
  have XB := XB2
  have XR := XR2
  clear HB2 XB2 XR2
  obtain ⟨y3, hy3⟩ : ∃ y, R.par ++ [(-1 : Int)] = y := ⟨_, rfl⟩
  have HY3 := Lib.hid hy3
  clear hy3
  have NL := Lib.hid (Kd.N_mono (ok' := (fun k => (ok k ∧ k < W0.heap.size) ∨ W0.heap.size + 2 ≤ k)) (Kd.N_lower (N_lit (Kd.int .i64) 3 w4 (W0.heap.size + 2) hs4.out) (Nat.le_add_right _ 2)) (fun k hk => .inr hk))
  have BL := Lib.hid (HB.out.alloc HB.out.size (.cells #[] 3))
  have XL := Lib.hid (blk_alloc XB.out (.cells #[] 3))
  have gl := blk_cell XL.out 3
  try simp only [List.getElem?_toArray, List.getElem?_cons_zero, List.getElem?_cons_succ] at gl
  go_upto_region 5 with (first
    | (refine Kd.N_append_rows (Kd.int .i64) (w0 := W0) (W := w4.alloc (.cells #[] 3)) W0.heap.size rfl (.tmp 31) (.tmp 33) 53 3 (.int .i64 0) 8 rfl Try.underlying53 info3 rfl (by decide) (by decide) (.slice (some ⟨w4.heap.size, 0, none⟩) 0 0) [] R.par B3 R.par.length d3 (fun k => (ok k ∧ k < W0.heap.size) ∨ W0.heap.size + 2 ≤ k) (fun k => ok k ∧ k < W0.heap.size) rfl rfl NL.out (Kd.F_below HF3.out BL.out) (fun k hk => ⟨.inl hk, fun e => by have := Kd.N_base NL.out k e.symm; omega⟩) (fun k hk => .inr (Nat.le_trans hs4.out (Nat.le_trans (by simp) hk))) BL.out BL.out.size (by simp; omega) ?_; intro va wa hna hba hga hata; rw [List.nil_append] at hna; have NA := Lib.hid hna; have BA := Lib.hid hba; have XA := Lib.hid (blk_grown XL.out hga (Kd.N_ne NL.out XL.out (by decide))); have GA := Lib.hid (And.intro hga hata); clear hna hba hga hata)
    | (refine Kd.N_append (Kd.int .i64) (w0 := W0) (W := wa) W0.heap.size rfl (.tmp 34) (.tmp 35) 53 3 (.int .i64 0) 8 rfl Try.underlying53 info3 rfl (by decide) (by decide) va R.par (-1 : Int) [.int .i64 (-1)] (fun k => (ok k ∧ k < W0.heap.size) ∨ W0.heap.size + 2 ≤ k) (fun _ => False) rfl (by first | (go_simp; done) | (go_simp; rfl)) (Kd.FK_of_M (base := 0) (ok := fun _ => False) rfl) (fun _ hk => hk.elim) (fun k hk => .inr (Nat.le_trans hs4.out (Nat.le_trans (by simp) (Nat.le_trans GA.out.1.size hk)))) NA.out BA.out BA.out.size (by omega) ?_; intro v4 wb hnb hbb hgb _; rw [HY3.out] at hnb; obtain ⟨A13, k13, rfl⟩ := Kd.N_slice hnb; have NB := Lib.hid hnb; have BB := Lib.hid hbb; have XBB := Lib.hid (blk_grown XA.out hgb (Kd.N_ne NA.out XA.out (by decide))); have GB := Lib.hid hgb; have gs := blk_cell XBB.out 3; have gf := blk_frozen XBB.out 3; clear hnb hbb hgb))
  have KP := Lib.hid (keep_two GA.out.1 GA.out.2 GB.out ⟨W0.heap.size, 3, none⟩ (.slice A13 y3.length k13))
  have HB2 := Lib.hid (BB.out.setCell (p := ⟨W0.heap.size, 3, none⟩) (Nat.le_refl _) (.slice A13 y3.length k13))
  have XB2 := Lib.hid (show (wb.setCell ⟨W0.heap.size, 3, none⟩ (.slice A13 y3.length k13)).heap[W0.heap.size]? = some (.cells #[(.slice A10 y0.length k10), (.slice A11 y1.length k11), (.slice A12 y2.length k12), (.slice A13 y3.length k13), (.int .i64 R.copies)] 62 (0, 0)) from blk_put XBB.out 3 (.slice A13 y3.length k13) rfl)
  have XR2 := Lib.hid ((KP.out (W0.heap.size + 1) (blk_lt XR.out) (by simp)).trans XR.out)
  replace PR0 := Lib.hid (PR0.out.bound.step fun k hk _ => KP.out k hk.2 (fun e => by simp only at e; rcases hk.1 with h | h <;> omega))
  replace PR1 := Lib.hid (PR1.out.bound.step fun k hk _ => KP.out k hk.2 (fun e => by simp only at e; rcases hk.1 with h | h <;> omega))
  replace PR2 := Lib.hid (PR2.out.bound.step fun k hk _ => KP.out k hk.2 (fun e => by simp only at e; rcases hk.1 with h | h <;> omega))
  have PR3 := Lib.hid (RowF.step (W1 := wb.setCell ⟨W0.heap.size, 3, none⟩ (.slice A13 y3.length k13)) (RowF.of_N NB.out) fun k hk _ => Below.heap_setCell wb _ _ k (fun e => by simp only at e; rcases hk with hk | hk <;> omega))
  have hs5 := Lib.hid (show W0.heap.size + 2 ≤ (wb.setCell ⟨W0.heap.size, 3, none⟩ (.slice A13 y3.length k13)).heap.size from blk_lt XR2.out)
  generalize hw5 : wb.setCell ⟨W0.heap.size, 3, none⟩ (.slice A13 y3.length k13) = w5 at *
  clear hw5 KP NB BB XBB GA GB NA BA XA NL BL XL gl gs gf HB XB XR
  have HB := HB2
  have XB := XB2
  have XR := XR2
  clear HB2 XB2 XR2
  have hyl : y0.length = R.names.length + 1 := by rw [← HY0.out, List.length_append, List.length_singleton]
  have hwl : IntKind.i64.wrap ((y0.length : Int) - 1) = (R.names.length : Int) := by rw [hyl, IntWalk.i64_in _ (by omega)]; omega
  have b0 := blk_cell XB.out 0
  have b1 := blk_cell XB.out 1
  have b2 := blk_cell XB.out 2
  have b3 := blk_cell XB.out 3
  have b4 := blk_cell XB.out 4
  have q0 := blk_cell XR.out 0
  have q1 := blk_cell XR.out 1
  have q2 := blk_cell XR.out 2
  have q3 := blk_cell XR.out 3
  have q4 := blk_cell XR.out 4
  have f0 := blk_frozen XR.out 0
  have f1 := blk_frozen XR.out 1
  have f2 := blk_frozen XR.out 2
  have f3 := blk_frozen XR.out 3
  have f4 := blk_frozen XR.out 4
  try simp only [List.getElem?_toArray, List.getElem?_cons_zero, List.getElem?_cons_succ] at b0 b1 b2 b3 b4 q0 q1 q2 q3 q4
  have HRA := Lib.hid (show RA w5 (fun k => (ok k ∧ k < W0.heap.size) ∨ W0.heap.size + 2 ≤ k) (.slice A10 y0.length k10) (.slice A11 y1.length k11) (.slice A12 y2.length k12) (.slice A13 y3.length k13) (R.element name a) from by
    refine ⟨?_, ?_, ?_, ?_⟩
    · show RowF _ _ _ _ (R.names ++ [name])
      rw [HY0.out]
      exact PR0.out.mono fun k hk => hk.1.1.1
    · show RowF _ _ _ _ (R.attrs ++ [a])
      rw [HY1.out]
      exact PR1.out.mono fun k hk => hk.1.1
    · show RowF _ _ _ _ (R.inner ++ [[]])
      rw [HY2.out]
      exact PR2.out.mono fun k hk => hk.1
    · show RowF _ _ _ _ (R.par ++ [-1])
      rw [HY3.out]
      exact PR3.out)
  clear PR0 PR1 PR2 PR3 n0 n1 n2 n3 hyl HN HF0 HF1 HF2 HF3 HFa hs1 hs2 hs3 hs4 hs5
  go_cut [7] (fun v7 wc => v7 = .int .i64 (R.names.length : Int) ∧ Hid (RA wc (fun k => ok k ∨ W0.heap.size ≤ k) (.slice A10 y0.length k10) (.slice A11 y1.length k11) (.slice A12 y2.length k12) (.slice A13 y3.length k13) (R.element name a)) ∧ Hid (Below W0.heap.size W0 wc) ∧ Hid (wc.heap[W0.heap.size + 1]? = some (.cells #[.slice A10 y0.length k10, .slice A11 y1.length k11, .slice A12 y2.length k12, .slice A13 y3.length k13, .int .i64 R.copies] 62 (0, 0))))
  case first =>
    go_region_with (fail)
    all_goals
      go_wp2_with fail
      go_meet
      refine ⟨rfl, Lib.hid ?_, Lib.hid ?_, Lib.hid ?_⟩
      · refine RA.mono (RA.step (W1 := (w5.setCells (W0.heap.size + 1) 0 [.slice A10 y0.length k10, .slice A11 y1.length k11, .slice A12 y2.length k12, .slice A13 y3.length k13, .int .i64 R.copies]).drew) HRA.out fun k hk _ => setCells_far _ 0 k (fun e => by rcases hk with h | h <;> omega)) fun k hk => ?_
        rcases hk with h | h
        · exact .inl h.1
        · exact .inr (by omega)
      · exact bd1 (((((HB.out.setCell (p := ⟨W0.heap.size + 1, 0, none⟩) (by simp) _).setCell (p := ⟨W0.heap.size + 1, 1, none⟩) (by simp) _).setCell (p := ⟨W0.heap.size + 1, 2, none⟩) (by simp) _).setCell (p := ⟨W0.heap.size + 1, 3, none⟩) (by simp) _).setCell (p := ⟨W0.heap.size + 1, 4, none⟩) (by simp) _)
      · exact blk_drew (blk_put (blk_put (blk_put (blk_put (blk_put XR.out 0 (.slice A10 y0.length k10) rfl) 1 (.slice A11 y1.length k11) rfl) 2 (.slice A12 y2.length k12) rfl) 3 (.slice A13 y3.length k13) rfl) 4 (.int .i64 R.copies) rfl)
  case rest =>
    obtain ⟨rfl, HA, HC, HX⟩ := hcut
    have e0 := blk_cell HX.out 0
    have e1 := blk_cell HX.out 1
    have e2 := blk_cell HX.out 2
    have e3 := blk_cell HX.out 3
    have e4 := blk_cell HX.out 4
    try simp only [List.getElem?_toArray, List.getElem?_cons_zero, List.getElem?_cons_succ] at e0 e1 e2 e3 e4
    go_wp2_with fail
    refine bodyPost_ret (v := .tuple #[.agg #[.slice A10 y0.length k10, .slice A11 y1.length k11, .slice A12 y2.length k12, .slice A13 y3.length k13, .int .i64 R.copies], .int .i64 (R.names.length : Int)]) ?_ rfl ?_
    · simp [results, Try.f38, go_sem, e0, e1, e2, e3, e4]
    · exact ⟨_, _, _, _, rfl, HA.out, HC.out⟩
def KM (K : Nat → Prop) (mb k : Nat) : Prop := K k ∨ k = mb
/-- An arena, a list over it, the document's arena in a box, and what is wanted. -/
structure St11 (w : World) (base b mb : Nat) (K : Nat → Prop) (m : M) (xs zs : List Int) (R : Rm) (u0 u1 u2 u3 sv : Value) (n : Nat) : Prop where
  str : StR w base base b m xs (KM K mb)
  km : ∀ k, K k → k ≠ mb
  box : w.heap[mb]? = some (.cells #[u0, u1, u2, u3, .int .i64 R.copies] 62 (0, 0))
  ra : RA w K u0 u1 u2 u3 R
  row : RowF (Kd.int .i64) w K sv zs
  gd : Gd m xs n
  u : U xs
  rel : Rel m R.names R.attrs
  li : R.inner.length = m.elems.length
  lp : R.par.length = m.elems.length
section
variable {w w1 w' : World} {base b mb n n' : Nat} {K : Nat → Prop} {m : M} {xs ys zs zs' : List Int} {R : Rm} {u0 u1 u2 u3 sv sv' : Value}
theorem St11.after (h : St11 w base b mb K m xs zs R u0 u1 u2 u3 sv n) (hS : StR w' base base b m ys (KM K mb)) (hs : Same (KM K mb) w w') (gd : Gd m ys n') (u : U ys) : St11 w' base b mb K m ys zs R u0 u1 u2 u3 sv n' where
  str := hS
  km := h.km
  box := (hs mb (.inr rfl)).trans h.box
  ra := h.ra.step fun k hk _ => hs k (.inl hk)
  row := h.row.step fun k hk _ => hs k (.inl hk)
  gd := gd
  u := u
  rel := h.rel
  li := h.li
  lp := h.lp
theorem St11.below (h : St11 w base b mb K m xs zs R u0 u1 u2 u3 sv n) (hb : Below w.heap.size w w1) : St11 w1 base b mb (Kn K w w1) m xs zs R u0 u1 u2 u3 sv n where
  str := by
    obtain ⟨nv, ev, vs, lv, h1, h2, h3, h4⟩ := h.str.below hb
    refine ⟨nv, ev, vs, lv, h1, h2, h3, fun k hk => h4 k ?_⟩
    rcases hk with (hk | hk) | hk
    · exact .inl (.inl hk)
    · exact .inr hk
    · exact .inl (.inr hk)
  km := fun k hk => by
    rcases hk with hk | hk
    · exact h.km k hk
    · have := blk_lt h.box
      omega
  box := blk_below h.box hb
  ra := (h.ra.step fun k hk hlt => hb.block k hlt).mono fun k hk => .inl hk
  row := (h.row.below hb).mono fun k hk => .inl hk
  gd := h.gd
  u := h.u
  rel := h.rel
  li := h.li
  lp := h.lp
theorem St11.want (h : St11 w base b mb K m xs zs R u0 u1 u2 u3 sv n) (hr : RowF (Kd.int .i64) w K sv' zs') : St11 w base b mb K m xs zs' R u0 u1 u2 u3 sv' n := { h with row := hr }
/-- What a call of the document's gives, wanted. -/
theorem St11.newWant (h : St11 w base b mb K m xs zs R u0 u1 u2 u3 sv n) (hb : Below w.heap.size w w1) (hr : Kd.R (Kd.int .i64) 3 w1 w.heap.size (fun _ => True) sv' zs') : St11 w1 base b mb (Kn K w w1) m xs zs' R u0 u1 u2 u3 sv' n :=
  (h.below hb).want ((RowF.of_R (Kd.R_bound hr)).mono fun k hk => .inr ⟨hk.2.1, hk.2.2.1⟩)
theorem St11.push14 (h : St11 w base b mb K m ys zs R u0 u1 u2 u3 sv n) (hz : ∀ x ∈ zs, x = -1 ∨ ∃ i : Nat, x = (i : Int) ∧ i < m.elems.length) (hl : zs.length ≤ 400) (e : Nat) (he : e < m.elems.length) :
    Calls Try.prog 60 #[.agg #[u0, u1, u2, u3, .int .i64 R.copies], sv, .int .i64 (e : Int)] w fun en w' => ∃ v, en = .returned v ∧ St11 w' base b mb (Kn K w w') m ys (pushL m zs e) R u0 u1 u2 u3 v n ∧ Below w.heap.size w w' := by
  obtain ⟨A0, c0, rfl, l0, C0⟩ := h.ra.r0.now
  obtain ⟨A1, c1, rfl, l1, C1⟩ := h.ra.r1.now
  obtain ⟨A2, c2, rfl, l2, C2⟩ := h.ra.r2.now
  obtain ⟨A3, c3, rfl, l3, C3⟩ := h.ra.r3.now
  obtain ⟨A4, c4, rfl, l4, C4⟩ := h.row.now
  refine (decanterref14_Push.calls 2000 A0 c0 R.names A1 c1 R.attrs A2 c2 R.inner A3 c3 R.par R.copies A4 c4 zs (e : Int) (pushL m zs e) w C0 l0 C1 l1 C2 l2 C3 l3 C4 l4 (push_eq h.rel R.inner R.par R.copies zs (by omega) hz e he 2000 (by omega))).mono ?_
  rintro en w' ⟨v, rfl, hr, hb⟩
  exact ⟨v, rfl, h.newWant hb hr, hb⟩
theorem St11.last14 (h : St11 w base b mb K m xs zs R u0 u1 u2 u3 sv n) (hz : ∀ x ∈ zs, x = -1 ∨ ∃ i : Nat, x = (i : Int) ∧ i < m.elems.length) (hl : zs.length ≤ 400) (nm : ByteArray) :
    Calls Try.prog 65 #[.agg #[u0, u1, u2, u3, .int .i64 R.copies], sv, .string nm] w fun en w' => en = .returned (.int .i64 ((lastL m nm zs).getD (-1))) ∧ Below w.heap.size w w' := by
  obtain ⟨A0, c0, rfl, l0, C0⟩ := h.ra.r0.now
  obtain ⟨A1, c1, rfl, l1, C1⟩ := h.ra.r1.now
  obtain ⟨A2, c2, rfl, l2, C2⟩ := h.ra.r2.now
  obtain ⟨A3, c3, rfl, l3, C3⟩ := h.ra.r3.now
  obtain ⟨A4, c4, rfl, l4, C4⟩ := h.row.now
  exact decanterref14_Last.calls 2000 A0 c0 R.names A1 c1 R.attrs A2 c2 R.inner A3 c3 R.par R.copies A4 c4 zs nm _ w C0 l0 C1 l1 C2 l2 C3 l3 C4 l4 (last_eq h.rel R.inner R.par R.copies zs (by omega) hz nm 2000 (by omega))
theorem St11.without14 (h : St11 w base b mb K m xs zs R u0 u1 u2 u3 sv n) (hl : zs.length ≤ 400) (i : Nat) (hi : i < zs.length) :
    Calls Try.prog 62 #[sv, .int .i64 (i : Int)] w fun en w' => ∃ v, en = .returned v ∧ St11 w' base b mb (Kn K w w') m xs (zs.take i ++ zs.drop (i + 1)) R u0 u1 u2 u3 v n ∧ Below w.heap.size w w' := by
  obtain ⟨A4, c4, rfl, l4, C4⟩ := h.row.now
  refine (decanterref14_Without.calls A4 c4 zs (i : Int) _ w C4 l4 (without_eq zs (by omega) i hi)).mono ?_
  rintro en w' ⟨v, rfl, hr, hb⟩
  exact ⟨v, rfl, h.newWant hb hr, hb⟩
theorem St11.insert14 (h : St11 w base b mb K m xs zs R u0 u1 u2 u3 sv n) (hl : zs.length ≤ 400) (i : Nat) (hi : i ≤ zs.length) (e : Int) :
    Calls Try.prog 63 #[sv, .int .i64 (i : Int), .int .i64 e] w fun en w' => ∃ v, en = .returned v ∧ St11 w' base b mb (Kn K w w') m xs (insL zs i e) R u0 u1 u2 u3 v n ∧ Below w.heap.size w w' := by
  obtain ⟨A4, c4, rfl, l4, C4⟩ := h.row.now
  refine (decanterref14_Insert.calls A4 c4 zs (i : Int) e _ w C4 l4 (insert_eq zs (by omega) i hi e)).mono ?_
  rintro en w' ⟨v, rfl, hr, hb⟩
  exact ⟨v, rfl, h.newWant hb hr, hb⟩
theorem St11.find14 (h : St11 w base b mb K m xs zs R u0 u1 u2 u3 sv n) (hl : zs.length ≤ 400) (x : Int) :
    Calls Try.prog 64 #[sv, .int .i64 x] w fun en w' => en = .returned (.int .i64 (findL zs x)) ∧ Below w.heap.size w w' := by
  obtain ⟨A4, c4, rfl, l4, C4⟩ := h.row.now
  refine (decanterref14_Find.calls 2000 A4 c4 zs x _ w C4 l4 (find_eq zs x (by omega) 2000 (by omega))).mono ?_
  rintro en w' ⟨rfl, hd⟩
  exact ⟨rfl, Drawn0.below hd⟩
set_option maxHeartbeats 1000000 in
theorem clear14 {A : Option Addr} {c : Nat} (hC : Kd.C (Kd.int .i64) w A zs.length zs) (hc : zs.length ≤ c) (hl : zs.length ≤ 400) :
    Calls Try.prog 61 #[.slice A zs.length c] w fun en w' => en = .returned (.slice A (clearN zs) c) ∧ Below w.heap.size w w' := by
  have HS := Lib.hid (decanterref14_Since.calls 1000 A c zs _ w hC hc (since_eq zs (by omega) 1000 (by omega)))
  have hcl := clearN_le zs
  have hm := markN_eq zs
  have hb := markAt_bounds zs
  have hw1 : IntKind.i64.wrap ((markN zs : Int) - 1) = markAt zs := by rw [IntWalk.i64_in _ (by omega)]; omega
  by_cases h0 : markAt zs < 0
  · have e : clearN zs = 0 := by unfold clearN; omega
    rw [e]
    clear hm hb hcl hC
    generalize markAt zs = M at *
    go_enter Try.func61, Try.ntmps61
    go_wp2_with (go_at_call 85; refine HS.out.mono ?_; rintro e w1 ⟨rfl, hd⟩; have B1 := Lib.hid (Drawn0.below hd); clear hd)
    go_ret
    exact ⟨rfl, B1.out⟩
  · have e : markAt zs = (clearN zs : Int) := by unfold clearN; omega
    rw [e] at hw1 h0
    have i0 : (0 : Int) ≤ (clearN zs : Int) := by omega
    have i1 : (clearN zs : Int) ≤ (c : Int) := by omega
    clear hm hb hC e
    generalize clearN zs = N at *
    go_enter Try.func61, Try.ntmps61
    go_wp2_with (go_at_call 85; refine HS.out.mono ?_; rintro e w1 ⟨rfl, hd⟩; have B1 := Lib.hid (Drawn0.below hd); clear hd)
    go_ret
    exact ⟨rfl, B1.out⟩
theorem St11.clear14 (h : St11 w base b mb K m xs zs R u0 u1 u2 u3 sv n) (hl : zs.length ≤ 400) :
    Calls Try.prog 61 #[sv] w fun en w' => ∃ v, en = .returned v ∧ St11 w' base b mb (Kn K w w') m xs (zs.take (clearN zs)) R u0 u1 u2 u3 v n ∧ Below w.heap.size w w' := by
  obtain ⟨A4, c4, rfl, l4, F4⟩ := h.row
  have hcl := clearN_le zs
  refine (Ar.clear14 (Kd.F_now F4) l4 hl).mono ?_
  rintro en w' ⟨rfl, hb⟩
  refine ⟨_, rfl, (h.below hb).want ⟨A4, c4, by rw [List.length_take, Nat.min_eq_left hcl], by rw [List.length_take]; omega, ?_⟩, hb⟩
  exact Kd.F_mono (Kd.F_imp (Kd.F_below F4 hb) fun W' hC => Kd.C_take hC hcl) fun k hk => .inl hk
end
structure S86 where
  f0 : Int
  f1 : Int
  f2 : ByteArray
  f3 : List S106
def z86 : S86 := ⟨0, 0, ⟨#[]⟩, []⟩
def k86 : Kd S86 := Kd.iso (Kd.pair (Kd.int .i64) (Kd.pair (Kd.int .i64) (Kd.pair Kd.string (Kd.slice 106 k106)))) (fun x : S86 => (x.f0, x.f1, x.f2, x.f3))
theorem k86_open {w : World} {x : S86} {cs : List Value} (h : k86.K w x cs) : ∃ A c, cs = [.int .i64 x.f0, .int .i64 x.f1, .string x.f2, .slice A x.f3.length c] ∧ x.f3.length ≤ c ∧ k106.C w A x.f3.length x.f3 := by
  obtain ⟨_, _, rfl, rfl, ⟨_, _, rfl, rfl, ⟨_, _, rfl, rfl, ⟨A, c, rfl, l3, g3⟩⟩⟩⟩ := h
  exact ⟨A, c, rfl, l3, g3⟩
theorem act_at {w : World} {A : Option Addr} {n : Nat} {xs : List S86} (h : Kd.C k86 w A n xs) (i : Nat) (hi : i < n) : ∃ ad A3 c3 x, A = some ad ∧ xs[i]? = some x ∧ w.cell? (ad.add (i * 4)) = some (.int .i64 x.f0) ∧ w.cell? ⟨(ad.add (i * 4)).block, (ad.add (i * 4)).off + 1, none⟩ = some (.int .i64 x.f1) ∧
    w.cell? ⟨(ad.add (i * 4)).block, (ad.add (i * 4)).off + 2, none⟩ = some (.string x.f2) ∧ w.cell? ⟨(ad.add (i * 4)).block, (ad.add (i * 4)).off + 3, none⟩ = some (.slice A3 x.f3.length c3) ∧ x.f3.length ≤ c3 ∧ k106.C w A3 x.f3.length x.f3 := by
  have hl : xs.length = n := h.1
  obtain ⟨ad, c, e, _, hK, hc0⟩ := Kd.C_get h z86 (i : Int) (by omega) (by omega)
  rw [Int.toNat_natCast] at hK hc0
  have hc : ∀ j u, c[j]? = some u → w.cell? (ad.add (i * 4 + j)) = some u := hc0
  obtain ⟨A3, c3, rfl, l3, g3⟩ := k86_open hK
  have hx : xs[i]? = some (xs.getD i z86) := by rw [List.getD_eq_getElem?_getD, List.getElem?_eq_getElem (by omega), Option.getD_some]
  exact ⟨ad, A3, c3, _, e, hx, hc 0 _ rfl, by rw [← add_field _ _ 1 (by omega)]; exact hc 1 _ rfl, by rw [← add_field _ _ 2 (by omega)]; exact hc 2 _ rfl, by rw [← add_field _ _ 3 (by omega)]; exact hc 3 _ rfl, l3, g3⟩
section
variable {w w1 w' : World} {base g b mb n n' : Nat} {K : Nat → Prop} {m : M} {xs ys zs zs' : List Int} {R : Rm} {u0 u1 u2 u3 v0 v1 v2 v3 sv sv' : Value}
theorem StR.poke (h : StR w base g b m xs K) (hp : Kp (fun k => k = mb) w w') (hK : K mb) (ht : ¬ Typed w 105 mb) : StR w' base g b m xs K := by
  obtain ⟨nv, ev, vs, lv, h1, h2, h3, h4⟩ := h
  obtain ⟨q1, q2, q3, q4⟩ := h4 mb hK
  refine ⟨nv, ev, vs, lv, h1.keep hp (fun k hk => by subst hk; exact ⟨q2, ht⟩), ⟨(hp.block b h2.lt (fun e => q3 e.symm)).trans h2.hb, h2.le, h2.row.move fun k hk => hp.block k (h2.row.lt k hk).2 (fun e => q4 (by rw [← e]; exact hk))⟩, h3, fun k hk => ⟨Nat.lt_of_lt_of_le (h4 k hk).1 hp.size, (h4 k hk).2⟩⟩
theorem RA.bound {W : World} {ok : Nat → Prop} (h : RA W ok u0 u1 u2 u3 R) : RA W (fun k => ok k ∧ k < W.heap.size) u0 u1 u2 u3 R := ⟨h.r0.bound, h.r1.bound, h.r2.bound, h.r3.bound⟩
/-- The document's arena has one more, the other not yet. -/
structure Pre (w : World) (base b mb : Nat) (K : Nat → Prop) (m : M) (xs zs : List Int) (R : Rm) (u0 u1 u2 u3 sv : Value) : Prop where
  str : StR w base base b m xs (KM K mb)
  km : ∀ k, K k → k ≠ mb
  box : w.heap[mb]? = some (.cells #[u0, u1, u2, u3, .int .i64 R.copies] 62 (0, 0))
  ra : RA w K u0 u1 u2 u3 R
  row : RowF (Kd.int .i64) w K sv zs
theorem Pre.below (h : Pre w base b mb K m xs zs R u0 u1 u2 u3 sv) (hb : Below w.heap.size w w1) : Pre w1 base b mb (Kn K w w1) m xs zs R u0 u1 u2 u3 sv where
  str := by
    obtain ⟨nv, ev, vs, lv, h1, h2, h3, h4⟩ := h.str.below hb
    refine ⟨nv, ev, vs, lv, h1, h2, h3, fun k hk => h4 k ?_⟩
    rcases hk with (hk | hk) | hk
    · exact .inl (.inl hk)
    · exact .inr hk
    · exact .inl (.inr hk)
  km := fun k hk => by
    rcases hk with hk | hk
    · exact h.km k hk
    · have := blk_lt h.box
      omega
  box := blk_below h.box hb
  ra := (h.ra.step fun k hk hlt => hb.block k hlt).mono fun k hk => .inl hk
  row := (h.row.below hb).mono fun k hk => .inl hk
theorem St11.pre (h : St11 w base b mb K m xs zs R u0 u1 u2 u3 sv n) : Pre w base b mb K m xs zs R u0 u1 u2 u3 sv := ⟨h.str, h.km, h.box, h.ra, h.row⟩
/-- The box takes the new arena. -/
theorem Pre.poke {R' : Rm} (h : Pre w base b mb K m xs zs R u0 u1 u2 u3 sv) (hra : RA w K v0 v1 v2 v3 R') (hc : R'.copies = R.copies) :
    Pre (w.setCells mb 0 [v0, v1, v2, v3, .int .i64 R.copies]) base b mb K m xs zs R' v0 v1 v2 v3 sv where
  str := h.str.poke (mb := mb) ((((((Kp.refl (fun k => k = mb) w).setCell (p := ⟨mb, 0, none⟩) rfl v0).setCell (p := ⟨mb, 1, none⟩) rfl v1).setCell (p := ⟨mb, 2, none⟩) rfl v2).setCell (p := ⟨mb, 3, none⟩) rfl v3).setCell (p := ⟨mb, 4, none⟩) rfl (.int .i64 R.copies)) (.inr rfl) (fun e => Typed.ne ⟨_, h.box⟩ e (by decide) rfl)
  km := h.km
  box := by
    rw [hc]
    exact blk_put (blk_put (blk_put (blk_put (blk_put h.box 0 v0 rfl) 1 v1 rfl) 2 v2 rfl) 3 v3 rfl) 4 (.int .i64 R.copies) rfl
  ra := hra.step fun k hk _ => setCells_far _ 0 k (h.km k hk)
  row := h.row.step fun k hk _ => setCells_far _ 0 k (h.km k hk)
/-- Both have it. -/
theorem Pre.full {a : List S106} {name : ByteArray} (h : Pre w base b mb K m xs zs (R.element name a) u0 u1 u2 u3 sv) (hS : StR w' base base b (m.element name (ofB a)) xs (KM K mb)) (hs : Same (KM K mb) w w') (gd : Gd m xs n) (u : U xs) (rel : Rel m R.names R.attrs) (li : R.inner.length = m.elems.length) (lp : R.par.length = m.elems.length) (ha : a.length ≤ 10) :
    St11 w' base b mb K (m.element name (ofB a)) xs zs (R.element name a) u0 u1 u2 u3 sv (n + 1) where
  str := hS
  km := h.km
  box := (hs mb (.inr rfl)).trans h.box
  ra := h.ra.step fun k hk _ => hs k (.inl hk)
  row := h.row.step fun k hk _ => hs k (.inl hk)
  gd := gd.element name (ofB a) (by rw [ofB_length]; omega)
  u := u
  rel := rel.element gd.els name a ha
  li := by
    show (R.inner ++ [[]]).length = _
    rw [List.length_append, List.length_singleton, li, (element_len _ _ _).1]
  lp := by
    show (R.par ++ [-1]).length = _
    rw [List.length_append, List.length_singleton, lp, (element_len _ _ _).1]
end
section
variable {w w1 w' : World} {base g b mb n n' : Nat} {K : Nat → Prop} {m : M} {xs ys zs zs' : List Int} {R : Rm} {u0 u1 u2 u3 v0 v1 v2 v3 sv sv' : Value}
theorem F_more {α : Type} {d : Kd α} {A : Option Addr} {c : Nat} {l : List α} (h : Kd.F d w K A c l) (hb : Below w.heap.size w w1) : Kd.F d w1 (Kn K w w1) A c l := Kd.F_mono (Kd.F_below h hb) fun k hk => .inl hk
theorem K_more {B : Nat} (h : ∀ k, k < B → K k) (w w1 : World) : ∀ k, k < B → Kn K w w1 k := fun k hk => .inl (h k hk)
theorem St11.elem12 (h : St11 w base b mb K m xs zs R u0 u1 u2 u3 sv n) (nm : ByteArray) (A3 : Option Addr) (c3 : Nat) (a : List S106) (hF : Kd.F k106 w K A3 a.length a) (hc : a.length ≤ c3) (hn : m.elems.length ≤ 1000) :
    Calls Try.prog 38 #[.agg #[u0, u1, u2, u3, .int .i64 R.copies], .string nm, .slice A3 a.length c3] w fun e w' => ∃ v0 v1 v2 v3, e = .returned (.tuple #[.agg #[v0, v1, v2, v3, .int .i64 R.copies], .int .i64 (m.elems.length : Int)]) ∧
      RA w' (Kn K w w') v0 v1 v2 v3 (R.element nm a) ∧ Below w.heap.size w w' := by
  have e1 := h.rel.ln
  have e2 := h.rel.la
  have e3 := h.li
  have e4 := h.lp
  have H := elem12_calls h.ra nm A3 c3 a hF hc (by omega)
  rw [e1] at H
  refine H.mono ?_
  rintro e w' ⟨v0, v1, v2, v3, rfl, hra, hb⟩
  refine ⟨v0, v1, v2, v3, rfl, hra.bound.mono fun k hk => ?_, hb⟩
  rcases hk with ⟨hk | hk, h2⟩
  · exact .inl hk
  · exact .inr ⟨hk, h2⟩
theorem RA.more {w5 w6 : World} (h : RA w5 (Kn K w w5) u0 u1 u2 u3 R) (hb : Below w5.heap.size w5 w6) : RA w6 (Kn K w w6) u0 u1 u2 u3 R := (h.step fun k _ hk => hb.block k hk).mono fun k hk => by
  rcases hk with hk | hk
  · exact .inl hk
  · exact .inr ⟨hk.1, Nat.lt_of_lt_of_le hk.2 hb.size⟩
theorem cells_below {B : Nat} {w5 : World} {g : Nat} {x0 x1 x2 x3 x4 : Value} (h : Below B w w5) (hg : B ≤ g) : Below B w (w5.setCells g 0 [x0, x1, x2, x3, x4]) :=
  ((((h.setCell (p := ⟨g, 0, none⟩) hg x0).setCell (p := ⟨g, 1, none⟩) hg x1).setCell (p := ⟨g, 2, none⟩) hg x2).setCell (p := ⟨g, 3, none⟩) hg x3).setCell (p := ⟨g, 4, none⟩) hg x4
/-- The box has taken the new arena: as one step. -/
theorem Pre.taken {w5 : World} {nm : ByteArray} {a : List S106} (h : Pre w base b mb K m xs zs R u0 u1 u2 u3 sv) (hb : Below w.heap.size w w5) (hra : RA w5 (Kn K w w5) v0 v1 v2 v3 (R.element nm a)) :
    Pre (w5.setCells mb 0 [v0, v1, v2, v3, .int .i64 R.copies]) base b mb (Kn K w w5) m xs zs (R.element nm a) v0 v1 v2 v3 sv := (h.below hb).poke hra rfl
end
theorem str_new {w2 wX : World} {base g : Nat} {m : M} {foot : Nat → Prop} (hA : IsA w2 base g m foot) (hb : Below w2.heap.size w2 wX) (hb1 : base ≤ w2.heap.size) :
    Calls Try.prog 31 #[.pointer (some ⟨g, 0, none⟩)] wX fun e w' => e = .returned (.pointer (some ⟨wX.heap.size, 0, none⟩)) ∧ StR w' base g wX.heap.size m [] (fun k => k < base ∨ (w2.heap.size ≤ k ∧ k < wX.heap.size)) ∧ Below wX.heap.size wX w' := by
  obtain ⟨nv, ev, vs, h1, _⟩ := hA
  have hX := hb.size
  refine (lnew_calls wX g base (Nat.le_trans hb1 hb.size)).mono ?_
  rintro e w' ⟨rfl, h2, h3⟩
  have h3s := h3.size
  refine ⟨rfl, ⟨nv, ev, vs, _, (h1.below hb).below h3, h2, fun k hk => ⟨fun e => ?_, fun e => by cases e⟩, fun k hk => ⟨?_, fun e => ?_, ?_, fun e => by cases e⟩⟩, h3⟩
  · have := (h1.foot_lt k hk).2
    omega
  · rcases hk with hk | hk <;> omega
  · have := h1.foot_lt k e
    rcases hk with hk | hk <;> omega
  · rcases hk with hk | hk <;> omega
/-- The place: which of the numbers. -/
def plN (N : Int) : Int := if 0 ≤ N then N else -(N + 1)
section
variable {w w1 w' : World} {base b mb n n' : Nat} {K : Nat → Prop} {m : M} {xs ys zs zs' : List Int} {R : Rm} {u0 u1 u2 u3 sv sv' : Value}
theorem St11.up (h : St11 w base b mb K m xs zs R u0 u1 u2 u3 sv n) (hn : n ≤ n') : St11 w base b mb K m xs zs R u0 u1 u2 u3 sv n' := { h with gd := h.gd.change (fun y hy => .inl hy) (Nat.le_trans h.gd.len hn) hn }
/-- The form of what is left. -/
def Did (w : World) (base b mb : Nat) (K : Nat → Prop) (m : M) (ys zs : List Int) (R : Rm) (u0 u1 u2 u3 sv : Value) (n : Nat) (en : Ending) (w' : World) : Prop :=
  en = .returned (.tuple #[]) ∧ St11 w' base b mb K m ys zs R u0 u1 u2 u3 sv n ∧ Below base w w' ∧ Same (KM K mb) w w'
theorem St11.cPush (h : St11 w base b mb K m xs zs R u0 u1 u2 u3 sv n) (hn : n ≤ 9999) (e : Nat) (he : e < m.elems.length) (hf : (e : Int) ∉ xs) :
    Calls Try.prog 32 #[.pointer (some ⟨b, 0, none⟩), .int .i64 (e : Int)] w (Did w base b mb K m (pushL m xs e) zs R u0 u1 u2 u3 sv (n + 1)) :=
  (str_push h.str h.gd (by omega) e he).mono fun en w' ⟨h1, h2, h3, h4⟩ => ⟨h1, h.after h2 h4 (h.gd.push e he) (h.u.push e hf), h3, h4⟩
theorem St11.cMark (h : St11 w base b mb K m xs zs R u0 u1 u2 u3 sv n) (hn : n ≤ 9999) :
    Calls Try.prog 53 #[.pointer (some ⟨b, 0, none⟩)] w (Did w base b mb K m (xs ++ [-1]) zs R u0 u1 u2 u3 sv (n + 1)) :=
  (str_mark h.str h.gd (by omega)).mono fun en w' ⟨h1, h2, h3, h4⟩ => ⟨h1, h.after h2 h4 h.gd.mark h.u.mark, h3, h4⟩
theorem St11.cClear (h : St11 w base b mb K m xs zs R u0 u1 u2 u3 sv n) (hn : n ≤ 9999) :
    Calls Try.prog 56 #[.pointer (some ⟨b, 0, none⟩)] w (Did w base b mb K m (xs.take (clearN xs)) zs R u0 u1 u2 u3 sv (n + 1)) :=
  (str_clear h.str h.gd (by omega)).mono fun en w' ⟨h1, h2, h3, h4⟩ => ⟨h1, h.after h2 h4 (h.gd.change (fun y hy => .inl (List.mem_of_mem_take hy)) (by have := h.gd.len; rw [List.length_take]; omega) (by omega)) (h.u.sub (List.take_sublist _ _)), h3, h4⟩
theorem St11.cInsert (h : St11 w base b mb K m xs zs R u0 u1 u2 u3 sv n) (hn : n ≤ 9999) (i : Nat) (hi : i ≤ xs.length) (e : Nat) (he : e < m.elems.length) (hf : (e : Int) ∉ xs) :
    Calls Try.prog 57 #[.pointer (some ⟨b, 0, none⟩), .int .i64 (i : Int), .int .i64 (e : Int)] w (Did w base b mb K m (insL xs i (e : Int)) zs R u0 u1 u2 u3 sv (n + 1)) :=
  (str_insert h.str h.gd (by omega) i hi (e : Int)).mono fun en w' ⟨h1, h2, h3, h4⟩ => ⟨h1, h.after h2 h4 (h.gd.change (fun y hy => (insL_mem hy).imp id fun e' => ⟨e, e', he⟩) (by have := h.gd.len; rw [insL_len _ _ _ hi]; omega) (by omega)) (h.u.ins i _ hf), h3, h4⟩
theorem St11.cRemove (h : St11 w base b mb K m xs zs R u0 u1 u2 u3 sv n) (hn : n ≤ 9999) (i : Nat) (x : Int) (hx : xs[i]? = some x) (h1 : x ≠ -1) :
    Calls Try.prog 59 #[.pointer (some ⟨b, 0, none⟩), .int .i64 x] w (Did w base b mb K m (xs.take i ++ xs.drop (i + 1)) zs R u0 u1 u2 u3 sv (n + 1)) :=
  (str_remove h.str h.gd (by omega) x).mono fun en w' ⟨e1, e2, e3, e4⟩ => by
    rw [h.u.out hx h1] at e2
    exact ⟨e1, h.after e2 e4 (h.gd.change (fun y hy => .inl ((cut_sub xs i).mem hy)) (Nat.le_trans (cut_sub xs i).length_le (Nat.le_trans h.gd.len (by omega))) (by omega)) (h.u.sub (cut_sub xs i)), e3, e4⟩
theorem St11.cRemoveMiss (h : St11 w base b mb K m xs zs R u0 u1 u2 u3 sv n) (hn : n ≤ 9999) (x : Int) (hx : x ∉ xs) :
    Calls Try.prog 59 #[.pointer (some ⟨b, 0, none⟩), .int .i64 x] w (Did w base b mb K m xs zs R u0 u1 u2 u3 sv (n + 1)) :=
  (str_remove h.str h.gd (by omega) x).mono fun en w' ⟨e1, e2, e3, e4⟩ => by
    rw [outL_miss hx] at e2
    exact ⟨e1, h.after e2 e4 (h.gd.change (fun y hy => .inl hy) (Nat.le_trans h.gd.len (by omega)) (by omega)) h.u, e3, e4⟩
theorem St11.cReplace (h : St11 w base b mb K m xs zs R u0 u1 u2 u3 sv n) (hn : n ≤ 9999) (i : Nat) (x : Int) (hx : xs[i]? = some x) (h1 : x ≠ -1) (e : Nat) (he : e < m.elems.length) (hf : (e : Int) ∉ xs) :
    Calls Try.prog 58 #[.pointer (some ⟨b, 0, none⟩), .int .i64 x, .int .i64 (e : Int)] w (Did w base b mb K m (insL (xs.take i ++ xs.drop (i + 1)) i (e : Int)) zs R u0 u1 u2 u3 sv (n + 1)) :=
  (str_replace h.str h.gd (by omega) x (e : Int)).mono fun en w' ⟨e1, e2, e3, e4⟩ => by
    have hi := (List.getElem?_eq_some_iff.1 hx).1
    rw [h.u.put hx h1] at e2
    refine ⟨e1, h.after e2 e4 (h.gd.change (fun y hy => (insL_mem hy).imp (fun q => (cut_sub xs i).mem q) fun e' => ⟨e, e', he⟩) ?_ (by omega)) ((h.u.sub (cut_sub xs i)).ins i _ (fun hin => hf ((cut_sub xs i).mem hin))), e3, e4⟩
    have hl : i ≤ (xs.take i ++ xs.drop (i + 1)).length := by rw [List.length_append, List.length_take]; omega
    rw [insL_len _ _ _ hl]
    exact Nat.succ_le_succ (Nat.le_trans (cut_sub xs i).length_le h.gd.len)
theorem St11.cReplaceMiss (h : St11 w base b mb K m xs zs R u0 u1 u2 u3 sv n) (hn : n ≤ 9999) (x y : Int) (hx : x ∉ xs) :
    Calls Try.prog 58 #[.pointer (some ⟨b, 0, none⟩), .int .i64 x, .int .i64 y] w (Did w base b mb K m xs zs R u0 u1 u2 u3 sv (n + 1)) :=
  (str_replace h.str h.gd (by omega) x y).mono fun en w' ⟨e1, e2, e3, e4⟩ => by
    rw [putL_miss hx] at e2
    exact ⟨e1, h.after e2 e4 (h.gd.change (fun y hy => .inl hy) (Nat.le_trans h.gd.len (by omega)) (by omega)) h.u, e3, e4⟩
/-- What is wanted is read at a place. -/
theorem St11.want_at {A : Option Addr} {c : Nat} (h : St11 w base b mb K m xs zs R u0 u1 u2 u3 (.slice A zs.length c) n) (i : Nat) (hi : i < zs.length) : ∃ ad, A = some ad ∧ w.cell? (ad.add i) = some (.int .i64 (zs.getD i 0)) := by
  obtain ⟨A', c', e, _, hC⟩ := h.row.now
  injection e with e1 e2 e3
  subst e1
  obtain ⟨ad, rfl, hcs⟩ := hC.2.2 (by omega)
  refine ⟨ad, rfl, ?_⟩
  have hx : zs[i]? = some (zs.getD i 0) := by rw [List.getD_eq_getElem?_getD, List.getElem?_eq_getElem hi, Option.getD_some]
  obtain ⟨cs, _, q2, q3⟩ := hcs i _ hx
  obtain rfl : cs = [.int .i64 (zs.getD i 0)] := q2
  have := q3 0 _ rfl
  rwa [show i * (Kd.int .i64).sz + 0 = i by show i * 1 + 0 = i; omega] at this
theorem RowF.slice {α : Type} {d : Kd α} {W : World} {ok : Nat → Prop} {A : Option Addr} {c : Nat} {l : List α} (h : RowF d W ok (.slice A l.length c) l) : Kd.F d W ok A l.length l := by
  obtain ⟨A', c', e, _, hF⟩ := h
  injection e with e1
  subst e1
  exact hF
theorem St11.marked {vb : Value} (h : St11 w base b mb K m ys zs R u0 u1 u2 u3 sv n) (hb : Below w.heap.size w w1) (hN : Kd.N (Kd.int .i64) 3 w1 w.heap.size (fun k => (K k ∧ k < w.heap.size) ∨ w.heap.size ≤ k) vb zs') :
    St11 w1 base b mb (Kn K w w1) m ys zs' R u0 u1 u2 u3 vb n :=
  (h.below hb).want ((RowF.of_N hN).bound.mono fun k hk => by
    rcases hk with ⟨hk | hk, h2⟩
    · exact .inl hk.1
    · exact .inr ⟨hk, h2⟩)
theorem lastR_some {m : M} {nm : ByteArray} {x : Int} : ∀ {l : List Int}, lastR m nm l = some x → x ∈ l ∧ x ≠ -1
  | [], h => by cases h
  | y :: r, h => by
    rw [lastR] at h
    split at h
    · cases h
    · rename_i h1
      split at h
      · cases h
        exact ⟨List.mem_cons_self .., h1⟩
      · obtain ⟨h3, h4⟩ := lastR_some h
        exact ⟨List.mem_cons_of_mem _ h3, h4⟩
theorem Gd.last_nn {nm : ByteArray} {x : Int} (h : Gd m xs n) (hl : lastL m nm xs = some x) : 0 ≤ x := by
  obtain ⟨h1, h2⟩ := lastR_some hl
  rcases h.ent x (List.mem_reverse.1 h1) with e | ⟨j, e, _⟩ <;> omega
theorem same14 {W : World} {A0 A1 : Option Addr} {c0 c1 : Nat} (h0 : Kd.C (Kd.int .i64) W A0 xs.length xs) (hc0 : xs.length ≤ c0) (h1 : Kd.C (Kd.int .i64) W A1 xs.length xs) (hc1 : xs.length ≤ c1) (hl : xs.length ≤ 1000000) :
    Calls Try.prog 34 #[.slice A0 xs.length c0, .slice A1 xs.length c1] W fun e w' => e = .returned (.bool true) ∧ Below W.heap.size W w' := by
  refine (decanterref14_Same.calls (xs.length + 1) A0 c0 xs A1 c1 xs true W h0 hc0 h1 hc1 (same_ints rfl (Nat.le_refl _) hl)).mono ?_
  rintro e w' ⟨rfl, hd⟩
  exact ⟨rfl, Drawn0.below hd⟩
def isB (xs : List Int) (P : Nat) : Bool := decide (P < xs.length) && (xs.getD P 0 != -1)
theorem isB_true {xs : List Int} {P : Nat} (h : isB xs P = true) : ∃ x, xs[P]? = some x ∧ x ≠ -1 ∧ P < xs.length := by
  unfold isB at h
  rw [Bool.and_eq_true, decide_eq_true_eq] at h
  obtain ⟨h1, h2⟩ := h
  refine ⟨xs.getD P 0, by rw [List.getD_eq_getElem?_getD, List.getElem?_eq_getElem h1, Option.getD_some], ?_, h1⟩
  intro e
  rw [e] at h2
  simp at h2
theorem Gd.fresh {m : M} {xs : List Int} {n : Nat} (h : Gd m xs n) : ((m.elems.length : Nat) : Int) ∉ xs := fun hin => by
  rcases h.ent _ hin with e | ⟨j, e, hj⟩ <;> omega
end
end Go.Proofs.Ytcdkcnegejhnhaa.Ar
