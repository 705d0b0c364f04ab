/-
  Lists of entries behind a mark, in plain Lean: what is pushed there stays there.
-/
import Derived.Test.YtcdkcnegejhnhaaLsKept
namespace Go.Proofs.Ytcdkcnegejhnhaa.Ar
open Go.RowKit Go.Proofs.Ytcdkcnegejhnhaa.PAr Go.Proofs.YtcdkcnegejhnhaaW.PrintWords Go.Proofs.YtcdkcnegejhnhaaW.PrintLast Go.Proofs.YtcdkcnegejhnhaaW.PrintMore
set_option linter.unusedVariables false
/-- The last element of a name behind the last mark, the entries from behind. -/
def lastR (m : M) (nm : ByteArray) : List Int → Option Int
  | [] => none
  | x :: r => if x = -1 then none else if (m.el x.toNat).name.toList = nm.toList then some x else lastR m nm r
def lastL (m : M) (nm : ByteArray) (xs : List Int) : Option Int := lastR m nm xs.reverse
theorem lastR_none {m : M} {nm : ByteArray} : ∀ {l : List Int}, (∀ x ∈ l, x ≠ -1 ∧ (m.el x.toNat).name.toList ≠ nm.toList) → lastR m nm l = none
  | [], _ => rfl
  | x :: r, h => by
    have hx := h x (List.mem_cons_self ..)
    rw [lastR, if_neg hx.1, if_neg hx.2]
    exact lastR_none fun y hy => h y (List.mem_cons_of_mem _ hy)
theorem lastR_stop {m : M} {nm : ByteArray} {z : Int} {r : List Int} : ∀ {l : List Int}, (∀ x ∈ l, x ≠ -1 ∧ (m.el x.toNat).name.toList ≠ nm.toList) → lastR m nm (l ++ z :: r) = lastR m nm (z :: r)
  | [], _ => rfl
  | x :: l, h => by
    have hx := h x (List.mem_cons_self ..)
    rw [List.cons_append, lastR, if_neg hx.1, if_neg hx.2]
    exact lastR_stop fun y hy => h y (List.mem_cons_of_mem _ hy)
theorem lastL_mark (m : M) (nm : ByteArray) (xs : List Int) : lastL m nm (xs ++ [-1]) = none := by
  unfold lastL
  rw [List.reverse_append, List.reverse_singleton, List.singleton_append, lastR, if_pos rfl]
theorem lastL_end (m : M) (nm : ByteArray) (xs : List Int) (e : Nat) (h : (m.el e).name.toList = nm.toList) : lastL m nm (xs ++ [(e : Int)]) = some (e : Int) := by
  unfold lastL
  rw [List.reverse_append, List.reverse_singleton, List.singleton_append, lastR, if_neg (by omega), Int.toNat_natCast, if_pos h]
theorem fb_rev (xs : List Int) (k : Nat) (hk : k ≤ xs.length) : (upto (fb xs) k).map Prod.snd = xs.reverse.take k := by
  apply List.ext_getElem
  · rw [List.length_map, upto_length, List.length_take, List.length_reverse]; omega
  · intro j h1 h2
    rw [List.length_map, upto_length] at h1
    have hj : xs.length - 1 - j < xs.length := by omega
    simp only [upto, List.map_map, List.getElem_map, List.getElem_range, Function.comp_apply, List.getElem_take, List.getElem_reverse, fb]
    rw [List.getElem?_eq_getElem hj, Option.getD_some]
theorem markAt_mid (P Y : List Int) (hY : ∀ y ∈ Y, y ≠ -1) : markAt (P ++ [-1] ++ Y) = (P.length : Int) := by
  refine markAt_some (k := P.length) (by simp) ?_ fun j h1 h2 => ?_
  · rw [List.append_assoc, List.getElem?_append_right (Nat.le_refl _), Nat.sub_self]
    rfl
  · rw [List.getElem?_append_right (by rw [List.length_append, List.length_singleton]; omega)]
    rw [List.length_append, List.length_append, List.length_singleton] at h2
    have hl : j - (P ++ [-1]).length < Y.length := by rw [List.length_append, List.length_singleton]; omega
    rw [List.getElem?_eq_getElem hl]
    exact hY _ (List.getElem_mem hl)
theorem markN_mid (P Y : List Int) (hY : ∀ y ∈ Y, y ≠ -1) : markN (P ++ [-1] ++ Y) = (P ++ [-1]).length := by
  unfold markN
  rw [markAt_mid P Y hY, List.length_append, List.length_singleton]
  omega
theorem clear_mid (P Y : List Int) (hY : ∀ y ∈ Y, y ≠ -1) : (P ++ [-1] ++ Y).take (clearN (P ++ [-1] ++ Y)) = P := by
  unfold clearN
  rw [markAt_mid P Y hY, Int.toNat_natCast, List.append_assoc, List.take_append, List.take_of_length_le (Nat.le_refl _), Nat.sub_self, List.take_zero, List.append_nil]
theorem first_ge {f : Int → Bool} {xs : List Int} {q : Nat} (h : 3 ≤ many f xs q) : q ≤ first f xs q := by
  unfold first
  rw [if_neg (by omega)]
  omega
theorem pushL_mid (m : M) (P Y : List Int) (hY : ∀ y ∈ Y, y ≠ -1) (e : Nat) : ∃ Z, pushL m (P ++ [-1] ++ Y) e = P ++ [-1] ++ Z ++ [(e : Int)] ∧ ∀ z ∈ Z, z ∈ Y := by
  unfold pushL
  rw [markN_mid P Y hY]
  generalize P ++ [-1] = Q
  split
  · rename_i h
    have hg := first_ge h
    generalize first _ _ _ = fi at *
    refine ⟨Y.take (fi - Q.length) ++ Y.drop (fi + 1 - Q.length), ?_, fun z hz => ?_⟩
    · rw [List.take_append, List.drop_append, List.take_of_length_le hg, List.drop_of_length_le (by omega : Q.length ≤ fi + 1), List.nil_append, List.append_assoc Q]
    · rcases List.mem_append.1 hz with h | h
      · exact List.mem_of_mem_take h
      · exact List.mem_of_mem_drop h
  · exact ⟨Y, rfl, fun z hz => hz⟩
/-- Elements of these names, pushed. -/
def pushes (s : M × List Int) (l : List ByteArray) : Nat → M × List Int
  | 0 => s
  | i + 1 => stepB (pushes s l i) (l.getD i ⟨#[]⟩) []
theorem pushes_good {s : M × List Int} {n : Nat} (h : Gd s.1 s.2 n) (l : List ByteArray) : ∀ i, Gd (pushes s l i).1 (pushes s l i).2 (n + 2 * i)
  | 0 => h
  | i + 1 => by
    have := (pushes_good h l i).step (l.getD i ⟨#[]⟩) [] (by decide)
    rw [show n + 2 * (i + 1) = n + 2 * i + 2 by omega]
    exact this
theorem pushes_elems (s : M × List Int) (l : List ByteArray) : ∀ i, (pushes s l i).1.elems.length = s.1.elems.length + i
  | 0 => rfl
  | i + 1 => by
    show ((pushes s l i).1.element _ []).elems.length = _
    rw [(element_len _ _ _).1, pushes_elems s l i]
    omega
/-- Behind the mark stand elements of these names alone. -/
theorem pushes_mid (m : M) (P : List Int) (l : List ByteArray) : ∀ i, ∃ Y, (pushes (m, P ++ [-1]) l i).2 = P ++ [-1] ++ Y ∧ ∀ y ∈ Y, ∃ j : Nat, y = (j : Int) ∧ m.elems.length ≤ j ∧ j < m.elems.length + i
  | 0 => ⟨[], by simp [pushes], fun y hy => by cases hy⟩
  | i + 1 => by
    obtain ⟨Y, h1, h3⟩ := pushes_mid m P l i
    have hl := pushes_elems (m, P ++ [-1]) l i
    obtain ⟨Z, h4, h5⟩ := pushL_mid ((pushes (m, P ++ [-1]) l i).1.element (l.getD i ⟨#[]⟩) []) P Y (fun y hy e => by obtain ⟨j, e', _⟩ := h3 y hy; omega) (pushes (m, P ++ [-1]) l i).1.elems.length
    refine ⟨Z ++ [((m.elems.length + i : Nat) : Int)], ?_, fun y hy => ?_⟩
    · show pushL _ (pushes (m, P ++ [-1]) l i).2 _ = _
      rw [h1, h4, hl, List.append_assoc]
    · rcases List.mem_append.1 hy with h | h
      · obtain ⟨j, e1, e2, e3⟩ := h3 y (h5 y h)
        exact ⟨j, e1, e2, by omega⟩
      · exact ⟨_, List.mem_singleton.1 h, by omega, by omega⟩
theorem insL_end (xs : List Int) (e : Int) : insL xs xs.length e = xs ++ [e] := by simp [insL]
theorem behind_step (m : M) (P : List Int) (l : List ByteArray) (hP : ∀ x ∈ P, x = -1 ∨ ∃ i : Nat, x = (i : Int) ∧ i < m.elems.length) (i : Nat) :
    ∃ K : Nat, findL (pushes (m, P ++ [-1]) l (i + 1)).2 ((m.elems.length + i : Nat) : Int) = (K : Int) ∧ P.length + 1 ≤ K ∧ (i = 0 → K = P.length + 1) ∧
      lastL (pushes (m, P ++ [-1]) l (i + 1)).1 (l.getD i ⟨#[]⟩) (pushes (m, P ++ [-1]) l (i + 1)).2 = some ((m.elems.length + i : Nat) : Int) := by
  obtain ⟨Y, h1, h3⟩ := pushes_mid m P l i
  have hl := pushes_elems (m, P ++ [-1]) l i
  obtain ⟨Z, h4, h5⟩ := pushL_mid ((pushes (m, P ++ [-1]) l i).1.element (l.getD i ⟨#[]⟩) []) P Y (fun y hy e => by obtain ⟨j, e', _⟩ := h3 y hy; omega) (pushes (m, P ++ [-1]) l i).1.elems.length
  have e2 : (pushes (m, P ++ [-1]) l (i + 1)).2 = P ++ [-1] ++ Z ++ [((m.elems.length + i : Nat) : Int)] := by
    show pushL _ (pushes (m, P ++ [-1]) l i).2 _ = _
    rw [h1, h4, hl]
  have hn : ((m.elems.length + i : Nat) : Int) ∉ P ++ [-1] ++ Z := fun hin => by
    rcases List.mem_append.1 hin with h | h
    · rcases List.mem_append.1 h with h | h
      · rcases hP _ h with e | ⟨j, e, hj⟩ <;> omega
      · have := List.mem_singleton.1 h
        omega
    · obtain ⟨j, e, e3, e4⟩ := h3 _ (h5 _ h)
      omega
  refine ⟨(P ++ [-1] ++ Z).length, ?_, ?_, fun hi => ?_, ?_⟩
  · rw [e2, ← insL_end]
    exact findL_ins (Nat.le_refl _) hn (by omega)
  · rw [List.length_append, List.length_append, List.length_singleton]; omega
  · subst hi
    obtain rfl : Z = [] := List.eq_nil_iff_forall_not_mem.2 fun z hz => by
      obtain ⟨j, e, e3, e4⟩ := h3 z (h5 z hz)
      omega
    rw [List.append_nil, List.length_append, List.length_singleton]
  · rw [e2]
    refine lastL_end _ _ _ _ ?_
    show (((pushes (m, P ++ [-1]) l i).1.element (l.getD i ⟨#[]⟩) []).el (m.elems.length + i)).name.toList = _
    have : m.elems.length + i = (pushes (m, P ++ [-1]) l i).1.elems.length := hl.symm
    rw [this, (el_new _ _ _).1]
end Go.Proofs.Ytcdkcnegejhnhaa.Ar
