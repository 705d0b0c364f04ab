/-
  Lists of attributes: the document's answer and the program's, whether two are the same, are one.
-/
import Derived.Test.YtcdkcnegejhnhaaLsPush
import Derived.Test.YtcdkcnegejhnhaaPArx4
import Derived.Test.YtcdkcnegejhnhaaPArx2
namespace Go.Proofs.Ytcdkcnegejhnhaa.Ar
open Go.RowKit Go.Proofs.Ytcdkcnegejhnhaa.PAr Go.Proofs.YtcdkcnegejhnhaaW.PrintWords Go.Proofs.YtcdkcnegejhnhaaW.PrintLast Go.Proofs.YtcdkcnegejhnhaaW.PrintMore
set_option linter.unusedVariables false
def ofB (l : List S106) : List S105 := l.map fun x => ⟨x.f0, x.f1⟩
theorem ofB_length (l : List S106) : (ofB l).length = l.length := by simp [ofB]
theorem rdB {l : List S106} {i : Nat} {x : S106} (h : l[i]? = some x) : rd_T106 l (i : Int) = x := by
  unfold rd_T106
  rw [Int.toNat_natCast, List.getD_eq_getElem?_getD, h, Option.getD_some]
theorem rdB5 {l : List S105} {i : Nat} {x : S105} (h : l[i]? = some x) : rd_T105 l (i : Int) = x := by
  unfold rd_T105
  rw [Int.toNat_natCast, List.getD_eq_getElem?_getD, h, Option.getD_some]
theorem wB (i : Nat) (h : i ≤ 1000000) : wrap64 ((i : Int) + 1) = ((i + 1 : Nat) : Int) := by rw [IntWalk.wrap64_in _ (by omega)]; rfl
theorem of_eq (l : List S106) (hl : l.length ≤ 100000) (k : Nat) (hk : l.length + 1 ≤ k) : decanterlaw06_Of.f k l = some (ofB l) := by
  unfold decanterlaw06_Of.f
  have loop : ∀ n i q : Nat, i + n = l.length → n + 1 ≤ q → decanterlaw06_Of.l0 q (ofB (l.take i)) l (l.length : Int) (i : Int) = some (ofB l) := by
    intro n
    induction n with
    | zero =>
      intro i q hi hq
      obtain ⟨q, rfl⟩ : ∃ q', q = q' + 1 := ⟨q - 1, by omega⟩
      rw [decanterlaw06_Of.l0, if_neg (by omega), List.take_of_length_le (by omega)]
    | succ n ihn =>
      intro i q hi hq
      obtain ⟨q, rfl⟩ : ∃ q', q = q' + 1 := ⟨q - 1, by omega⟩
      have hx : l[i]? = some l[i] := List.getElem?_eq_getElem (by omega)
      have e : ofB (l.take i) ++ [(⟨l[i].f0, l[i].f1⟩ : S105)] = ofB (l.take (i + 1)) := by
        unfold ofB
        rw [List.take_add_one, hx, List.map_append]
        rfl
      rw [decanterlaw06_Of.l0, if_pos (by omega), if_pos (by omega), if_pos (by omega), if_pos (by rw [ofB_length, List.length_take]; omega), rdB hx, wB i (by omega), e]
      exact ihn (i + 1) q (by omega) (by omega)
  exact loop l.length 0 k (by omega) (by omega)
/-- The value of a name. -/
def lk (l : List S106) (x : ByteArray) : ByteArray × Bool := match l with
  | [] => (⟨#[]⟩, false)
  | y :: r => if y.f0.toList = x.toList then (y.f1, true) else lk r x
theorem ref_get (l : List S106) (x : ByteArray) (hl : l.length ≤ 100000) (k : Nat) (hk : l.length + 1 ≤ k) : decanterref06_Get.f k l x = some (lk l x) := by
  unfold decanterref06_Get.f
  have loop : ∀ n i q : Nat, i + n = l.length → n + 1 ≤ q → decanterref06_Get.l0 q l x (i : Int) = some (lk (l.drop i) x) := by
    intro n
    induction n with
    | zero =>
      intro i q hi hq
      obtain ⟨q, rfl⟩ : ∃ q', q = q' + 1 := ⟨q - 1, by omega⟩
      rw [decanterref06_Get.l0, if_neg (by omega), List.drop_of_length_le (by omega), lk]
    | succ n ihn =>
      intro i q hi hq
      obtain ⟨q, rfl⟩ : ∃ q', q = q' + 1 := ⟨q - 1, by omega⟩
      have hlt : i < l.length := by omega
      rw [decanterref06_Get.l0, if_pos (by omega), if_pos (by omega), rdB (List.getElem?_eq_getElem hlt), wB i (by omega), List.drop_eq_getElem_cons hlt, lk]
      split
      · rfl
      · exact ihn (i + 1) q (by omega) (by omega)
  have := loop l.length 0 k (by omega) (by omega)
  rwa [List.drop_zero] at this
theorem attr_get (l : List S106) (x : ByteArray) (hl : l.length ≤ 100000) : attr_Get.f (ofB l) x = some (lk l x) := by
  have loop : ∀ (r : List S106) (i : Nat), (attr_find.from (attr_find.named x) (ofB r) i < 0 ∧ lk r x = (⟨#[]⟩, false)) ∨ (∃ j y, attr_find.from (attr_find.named x) (ofB r) i = ((i + j : Nat) : Int) ∧ r[j]? = some y ∧ lk r x = (y.f1, true)) := by
    intro r
    induction r with
    | nil => intro i; exact .inl ⟨by show (-1 : Int) < 0; omega, rfl⟩
    | cons y r ih =>
      intro i
      by_cases hy : y.f0.toList = x.toList
      · refine .inr ⟨0, y, ?_, rfl, ?_⟩
        · show (if (y.f0.toList == x.toList) = true then (i : Int) else _) = _
          rw [if_pos (beq_iff_eq.2 hy)]
          rfl
        · rw [lk, if_pos hy]
      · have e1 : attr_find.from (attr_find.named x) (ofB (y :: r)) i = attr_find.from (attr_find.named x) (ofB r) (i + 1) := by
          show (if (y.f0.toList == x.toList) = true then (i : Int) else attr_find.from (attr_find.named x) (ofB r) (i + 1)) = _
          rw [if_neg (fun e => hy (beq_iff_eq.1 e))]
        have e2 : lk (y :: r) x = lk r x := by rw [lk, if_neg hy]
        rw [e1, e2]
        rcases ih (i + 1) with h | ⟨j, z, h1, h2, h3⟩
        · exact .inl h
        · exact .inr ⟨j + 1, z, by rw [h1]; congr 1; omega, by simpa using h2, h3⟩
  unfold attr_Get.f attr_find.f
  rw [if_pos (by rw [ofB_length]; omega), Option.bind_some]
  rcases loop l 0 with ⟨h1, h2⟩ | ⟨j, y, h1, h2, h3⟩
  · rw [if_pos h1, h2]
  · have hj := (List.getElem?_eq_some_iff.1 h2).1
    have h5 : (ofB l)[j]? = some ⟨y.f0, y.f1⟩ := by simp [ofB, h2]
    rw [h1, h3, Nat.zero_add, if_neg (by omega), if_pos (by omega), if_pos (by rw [ofB_length]; omega), rdB5 h5]
/-- An attribute is one of another list. -/
def okA (b : List S106) (y : S106) : Bool := (lk b y.f0).2 && ((lk b y.f0).1.toList == y.f1.toList)
theorem lacks_eq (b : List S106) (hb : b.length ≤ 100000) (y : S106) : attr_within.lacks (ofB b) ⟨y.f0, y.f1⟩ = !okA b y := by
  unfold attr_within.lacks okA
  rw [attr_get b y.f0 hb]
  rcases lk b y.f0 with ⟨v, ok⟩
  cases ok <;> simp [bne]
theorem within_all (b : List S106) (hb : b.length ≤ 100000) : ∀ (a : List S106) (i : Nat), decide (attr_find.from (attr_within.lacks (ofB b)) (ofB a) i < 0) = a.all (okA b)
  | [], i => rfl
  | y :: r, i => by
    have ih := within_all b hb r (i + 1)
    have e : attr_find.from (attr_within.lacks (ofB b)) (ofB (y :: r)) i = if attr_within.lacks (ofB b) ⟨y.f0, y.f1⟩ = true then (i : Int) else attr_find.from (attr_within.lacks (ofB b)) (ofB r) (i + 1) := rfl
    rw [e, lacks_eq b hb y, List.all_cons]
    cases hk : okA b y
    · rw [Bool.not_false, if_pos rfl, Bool.false_and]
      exact decide_eq_false (by omega)
    · rw [Bool.not_true, if_neg (by decide), Bool.true_and]
      exact ih
/-- Are two lists the same? -/
def eqA (l r : List S106) : Bool := decide (l.length = r.length) && (l.all (okA r) && r.all (okA l))
theorem sameA_of (l r : List S106) (hl : l.length ≤ 100000) (hr : r.length ≤ 100000) : sameA (ofB l) (ofB r) = eqA l r := by
  unfold sameA eqA
  rw [within_all r hr, within_all l hl, ofB_length, ofB_length]
theorem ref_same (l r : List S106) (hl : l.length ≤ 100000) (k : Nat) (hk : 2 * l.length + 2 ≤ k) : decanterref06_Same.f k l r = some (eqA l r) := by
  unfold decanterref06_Same.f eqA
  by_cases e : l.length = r.length
  · rw [if_pos (by omega), decide_eq_true e, Bool.true_and]
    have loop : ∀ n i q : Nat, i + n = l.length → n + l.length + 2 ≤ q → decanterref06_Same.l0 q l r (i : Int) = some ((l.drop i).all (okA r) && (r.drop i).all (okA l)) := by
      intro n
      induction n with
      | zero =>
        intro i q hi hq
        obtain ⟨q, rfl⟩ : ∃ q', q = q' + 1 := ⟨q - 1, by omega⟩
        rw [decanterref06_Same.l0, if_neg (by omega), List.drop_of_length_le (by omega), List.drop_of_length_le (by omega)]
        rfl
      | succ n ihn =>
        intro i q hi hq
        obtain ⟨q, rfl⟩ : ∃ q', q = q' + 1 := ⟨q - 1, by omega⟩
        have h1 : i < l.length := by omega
        have h2 : i < r.length := by omega
        rw [decanterref06_Same.l0, if_pos (by omega), if_pos (by omega), rdB (List.getElem?_eq_getElem h1), rdB (List.getElem?_eq_getElem h2), ref_get r _ (by omega) q (by omega), Option.bind_some, if_pos (by omega), ref_get l _ hl q (by omega), Option.bind_some,
          wB i (by omega), List.drop_eq_getElem_cons h1, List.drop_eq_getElem_cons h2, List.all_cons, List.all_cons, ihn (i + 1) q (by omega) (by omega)]
        simp only [okA]
        by_cases c1 : (lk r l[i].f0).2 = true
        · by_cases c2 : (lk r l[i].f0).1.toList = l[i].f1.toList
          · by_cases c3 : (lk l r[i].f0).2 = true
            · by_cases c4 : (lk l r[i].f0).1.toList = r[i].f1.toList
              · rw [if_pos c1, if_pos c2, if_pos c3, if_pos c4, c1, c3, beq_iff_eq.2 c2, beq_iff_eq.2 c4]
                simp
              · rw [if_pos c1, if_pos c2, if_pos c3, if_neg c4, beq_eq_false_iff_ne.2 c4]
                simp
            · rw [if_pos c1, if_pos c2, if_neg c3, Bool.eq_false_iff.2 c3]
              simp
          · rw [if_pos c1, if_neg c2, beq_eq_false_iff_ne.2 c2]
            simp
        · rw [if_neg c1, Bool.eq_false_iff.2 c1]
          simp
    have := loop l.length 0 k (by omega) (by omega)
    rw [List.drop_zero, List.drop_zero] at this
    exact this
  · rw [if_neg (by omega), decide_eq_false e, Bool.false_and]
end Go.Proofs.Ytcdkcnegejhnhaa.Ar
