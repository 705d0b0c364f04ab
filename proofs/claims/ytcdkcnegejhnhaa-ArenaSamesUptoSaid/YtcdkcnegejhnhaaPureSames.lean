/-
  Trees of nodes in plain Lean: how many, how deep, turned, the same; what the printed functions come to.
-/
import Derived.Test.YtcdkcnegejhnhaaPASamx
import Derived.IntWalk
namespace Go.Proofs.Ytcdkcnegejhnhaa.PASam
open Go.RowKit Go.Proofs.YtcdkcnegejhnhaaW.PrintWords Go.Proofs.YtcdkcnegejhnhaaW.PrintLast Go.Proofs.YtcdkcnegejhnhaaW.PrintMore
set_option linter.unusedVariables false
mutual
def nL : List S38 → Nat
  | [] => 0
  | x :: r => nN x + nL r
def nN : S38 → Nat
  | ⟨_, _, _, i⟩ => nL i + 1
end
mutual
def dL : List S38 → Nat
  | [] => 0
  | x :: r => max (dN x) (dL r)
def dN : S38 → Nat
  | ⟨_, _, _, i⟩ => dL i + 1
end
mutual
def wL : List S38 → Nat
  | [] => 0
  | x :: r => wN x + wL r
def wN : S38 → Nat
  | ⟨_, a, _, i⟩ => a.length + wL i + 1
end
def ofA (l : List S106) : List S105 := l.map fun x => ⟨x.f0, x.f1⟩
mutual
def ofL : List S38 → List S31
  | [] => []
  | x :: r => ofN x :: ofL r
def ofN : S38 → S31
  | ⟨n, a, t, i⟩ => ⟨n, ofA a, t, ofL i⟩
end
mutual
def cL : List S31 → Nat
  | [] => 0
  | x :: r => cN x + cL r
def cN : S31 → Nat
  | ⟨_, _, _, i⟩ => cL i + 1
end
mutual
def eL : List S31 → Nat
  | [] => 0
  | x :: r => max (eN x) (eL r)
def eN : S31 → Nat
  | ⟨_, _, _, i⟩ => eL i + 1
end
theorem nN_eq (x : S38) : nN x = nL x.f3 + 1 := by cases x; rfl
theorem dN_eq (x : S38) : dN x = dL x.f3 + 1 := by cases x; rfl
theorem wN_eq (x : S38) : wN x = x.f1.length + wL x.f3 + 1 := by cases x; rfl
theorem ofN_eq (x : S38) : ofN x = ⟨x.f0, ofA x.f1, x.f2, ofL x.f3⟩ := by cases x; rfl
theorem cN_eq (x : S31) : cN x = cL x.f3 + 1 := by cases x; rfl
theorem eN_eq (x : S31) : eN x = eL x.f3 + 1 := by cases x; rfl
theorem wL_append : ∀ l r : List S38, wL (l ++ r) = wL l + wL r
  | [], r => by simp [wL]
  | x :: l, r => by simp only [List.cons_append, wL, wL_append l r]; omega
theorem cL_append : ∀ l r : List S31, cL (l ++ r) = cL l + cL r
  | [], r => by simp [cL]
  | x :: l, r => by simp only [List.cons_append, cL, cL_append l r]; omega
theorem eL_append : ∀ l r : List S31, eL (l ++ r) = max (eL l) (eL r)
  | [], r => by simp [eL]
  | x :: l, r => by simp only [List.cons_append, eL, eL_append l r]; omega
theorem len_wL : ∀ l : List S38, l.length ≤ wL l
  | [] => by simp [wL]
  | x :: r => by have := len_wL r; have := wN_eq x; simp only [wL, List.length_cons]; omega
theorem len_cL : ∀ l : List S31, l.length ≤ cL l
  | [] => by simp [cL]
  | x :: r => by have := len_cL r; have := cN_eq x; simp only [cL, List.length_cons]; omega
theorem ofL_length : ∀ l : List S38, (ofL l).length = l.length
  | [] => rfl
  | x :: r => by simp only [ofL, List.length_cons, ofL_length r]
mutual
theorem n_wL : ∀ l : List S38, nL l ≤ wL l
  | [] => by simp [nL, wL]
  | x :: r => by have := n_wL r; have := n_wN x; simp only [nL, wL]; omega
theorem n_wN : ∀ x : S38, nN x ≤ wN x
  | ⟨_, a, _, i⟩ => by have := n_wL i; simp only [nN, wN]; omega
end
mutual
theorem d_nL : ∀ l : List S38, dL l ≤ nL l
  | [] => by simp [nL, dL]
  | x :: r => by have := d_nL r; have := d_nN x; simp only [nL, dL]; omega
theorem d_nN : ∀ x : S38, dN x ≤ nN x
  | ⟨_, a, _, i⟩ => by have := d_nL i; simp only [nN, dN]; omega
end
mutual
theorem e_cL : ∀ l : List S31, eL l ≤ cL l
  | [] => by simp [cL, eL]
  | x :: r => by have := e_cL r; have := e_cN x; simp only [cL, eL]; omega
theorem e_cN : ∀ x : S31, eN x ≤ cN x
  | ⟨_, a, _, i⟩ => by have := e_cL i; simp only [cN, eN]; omega
end
mutual
theorem cL_of : ∀ l : List S38, cL (ofL l) = nL l
  | [] => rfl
  | x :: r => by simp only [ofL, cL, nL, cL_of r, cN_of x]
theorem cN_of : ∀ x : S38, cN (ofN x) = nN x
  | ⟨_, a, _, i⟩ => by simp only [ofN, cN, nN, cL_of i]
end
mutual
theorem eL_of : ∀ l : List S38, eL (ofL l) = dL l
  | [] => rfl
  | x :: r => by simp only [ofL, eL, dL, eL_of r, eN_of x]
theorem eN_of : ∀ x : S38, eN (ofN x) = dN x
  | ⟨_, a, _, i⟩ => by simp only [ofN, eN, dN, eL_of i]
end
theorem drop_at {α : Type} {l : List α} {i : Nat} {x : α} (h : l[i]? = some x) : l.drop i = x :: l.drop (i + 1) := by
  obtain ⟨hi, rfl⟩ := List.getElem?_eq_some_iff.1 h
  exact List.drop_eq_getElem_cons hi
theorem wL_at {l : List S38} {i : Nat} {x : S38} (h : l[i]? = some x) : l.length + x.f1.length + wL x.f3 ≤ wL l := by
  have e : wL l = wL (l.take i) + (wN x + wL (l.drop (i + 1))) := by
    rw [show wN x + wL (l.drop (i + 1)) = wL (l.drop i) by rw [drop_at h]; rfl, ← wL_append, List.take_append_drop]
  have h1 := len_wL (l.take i)
  have h2 := len_wL (l.drop (i + 1))
  have h3 := wN_eq x
  have hi := (List.getElem?_eq_some_iff.1 h).1
  rw [List.length_take] at h1
  rw [List.length_drop] at h2
  omega
theorem cL_at {l : List S31} {i : Nat} {x : S31} (h : l[i]? = some x) : l.length + cL x.f3 ≤ cL l := by
  have e : cL l = cL (l.take i) + (cN x + cL (l.drop (i + 1))) := by
    rw [show cN x + cL (l.drop (i + 1)) = cL (l.drop i) by rw [drop_at h]; rfl, ← cL_append, List.take_append_drop]
  have h1 := len_cL (l.take i)
  have h2 := len_cL (l.drop (i + 1))
  have h3 := cN_eq x
  have hi := (List.getElem?_eq_some_iff.1 h).1
  rw [List.length_take] at h1
  rw [List.length_drop] at h2
  omega
theorem rd38 {l : List S38} {i : Nat} {x : S38} (h : l[i]? = some x) : rd_T38 l (i : Int) = x := by
  unfold rd_T38
  rw [Int.toNat_natCast, List.getD_eq_getElem?_getD, h, Option.getD_some]
theorem rd31 {l : List S31} {i : Nat} {x : S31} (h : l[i]? = some x) : rd_T31 l (i : Int) = x := by
  unfold rd_T31
  rw [Int.toNat_natCast, List.getD_eq_getElem?_getD, h, Option.getD_some]
theorem rd106 {l : List S106} {i : Nat} {x : S106} (h : l[i]? = some x) : rd_T106 l (i : Int) = x := by
  unfold rd_T106
  rw [Int.toNat_natCast, List.getD_eq_getElem?_getD, h, Option.getD_some]
theorem w1 (i : Nat) (h : i ≤ 100000000) : wrap64 ((i : Int) + 1) = ((i + 1 : Nat) : Int) := by rw [Go.IntWalk.wrap64_in _ (by omega)]; rfl
theorem w2 (i j : Nat) (h : i + j ≤ 100000000) : wrap64 ((i : Int) + (j : Int)) = ((i + j : Nat) : Int) := by rw [Go.IntWalk.wrap64_in _ (by omega)]; rfl
theorem nL_drop_le (l : List S38) (i : Nat) : nL (l.drop i) ≤ wL l := by
  have h1 := n_wL (l.drop i)
  have h2 := wL_append (l.take i) (l.drop i)
  rw [List.take_append_drop] at h2
  omega
def iL : List S38 → Nat
  | [] => 0
  | x :: r => nL x.f3 + iL r
theorem nL_iL : ∀ l : List S38, nL l = l.length + iL l
  | [] => rfl
  | x :: r => by have := nL_iL r; have := nN_eq x; simp only [nL, iL, List.length_cons]; omega
theorem none_at {α : Type} {l : List α} {i : Nat} (h : i + 0 = l.length) : l.drop i = [] := by rw [List.drop_eq_nil_iff]; omega
theorem get_at {α : Type} {l : List α} {i n : Nat} (h : i + (n + 1) = l.length) : ∃ x, l[i]? = some x := ⟨l[i], List.getElem?_eq_getElem (by omega)⟩
theorem many_eq : ∀ W : Nat, ∀ l : List S38, wL l ≤ W → W ≤ 4000000 → ∀ k, 2 * W + 2 ≤ k → decanterref12_Many.f k l = some (nL l : Int) := by
  intro W
  induction W using Nat.strongRecOn with
  | _ W ih =>
  intro l hl hW k hk
  have hlen := len_wL l
  obtain ⟨k, rfl⟩ : ∃ k', k = k' + 1 := ⟨k - 1, by omega⟩
  have loop : ∀ n i a q : Nat, i + n = l.length → a + iL (l.drop i) ≤ 20000000 → 2 * W + 1 ≤ q + i → decanterref12_Many.l0 q l (a : Int) (i : Int) = some ((a + iL (l.drop i) : Nat) : Int) := by
    intro n
    induction n with
    | zero =>
      intro i a q hi ha hq
      obtain ⟨q, rfl⟩ : ∃ q', q = q' + 1 := ⟨q - 1, by omega⟩
      rw [decanterref12_Many.l0, if_neg (by omega), none_at hi]
      rfl
    | succ n ihn =>
      intro i a q hi ha hq
      obtain ⟨q, rfl⟩ : ∃ q', q = q' + 1 := ⟨q - 1, by omega⟩
      obtain ⟨x, hx⟩ := get_at hi
      have hw := wL_at hx
      rw [drop_at hx, iL] at ha
      rw [decanterref12_Many.l0, if_pos (by omega), if_pos (by omega), rd38 hx, ih (W - l.length) (by omega) x.f3 (by omega) (by omega) q (by omega), Option.bind_some, w2 a _ (by omega), w1 i (by omega),
        ihn (i + 1) _ q (by omega) (by omega) (by omega), drop_at hx, iL, Nat.add_assoc]
  have hi := nL_iL l
  have hn := n_wL l
  rw [decanterref12_Many.f, show (0 : Int) = ((0 : Nat) : Int) from rfl, loop l.length 0 l.length k (by omega) (by rw [List.drop_zero]; omega) (by omega), List.drop_zero, hi]
theorem deep_eq : ∀ W : Nat, ∀ l : List S38, wL l ≤ W → W ≤ 4000000 → ∀ k, 2 * W + 2 ≤ k → decanterref12_Deep.f k l = some (dL l : Int) := by
  intro W
  induction W using Nat.strongRecOn with
  | _ W ih =>
  intro l hl hW k hk
  have hlen := len_wL l
  obtain ⟨k, rfl⟩ : ∃ k', k = k' + 1 := ⟨k - 1, by omega⟩
  have loop : ∀ n i a q : Nat, i + n = l.length → 2 * W + 1 ≤ q + i → decanterref12_Deep.l0 q l (a : Int) (i : Int) = some ((max a (dL (l.drop i)) : Nat) : Int) := by
    intro n
    induction n with
    | zero =>
      intro i a q hi hq
      obtain ⟨q, rfl⟩ : ∃ q', q = q' + 1 := ⟨q - 1, by omega⟩
      rw [decanterref12_Deep.l0, if_neg (by omega), none_at hi, dL, Nat.max_eq_left (Nat.zero_le _)]
    | succ n ihn =>
      intro i a q hi hq
      obtain ⟨q, rfl⟩ : ∃ q', q = q' + 1 := ⟨q - 1, by omega⟩
      obtain ⟨x, hx⟩ := get_at hi
      have hw := wL_at hx
      have hd := Nat.le_trans (d_nL x.f3) (n_wL x.f3)
      have e1 := dN_eq x
      rw [decanterref12_Deep.l0, if_pos (by omega), if_pos (by omega), rd38 hx, ih (W - l.length) (by omega) x.f3 (by omega) (by omega) q (by omega), Option.bind_some, w1 _ (by omega), w1 i (by omega),
        ihn (i + 1) (dL x.f3 + 1) q (by omega) (by omega), ihn (i + 1) a q (by omega) (by omega), drop_at hx, dL, e1]
      split
      · congr 2
        omega
      · congr 2
        omega
  rw [decanterref12_Deep.f, show (0 : Int) = ((0 : Nat) : Int) from rfl, loop l.length 0 0 k (by omega) (by omega), List.drop_zero, Nat.max_eq_right (Nat.zero_le _)]
theorem ofA_eq (l : List S106) (hl : l.length ≤ 4000000) (k : Nat) (hk : l.length + 1 ≤ k) : decanterlaw06_Of.f k l = some (ofA l) := by
  have loop : ∀ n i q : Nat, i + n = l.length → n + 1 ≤ q → decanterlaw06_Of.l0 q (ofA (l.take i)) l (l.length : Int) (i : Int) = some (ofA l) := by
    intro n
    induction n with
    | zero =>
      intro i q hi hq
      obtain ⟨q, rfl⟩ : ∃ q', q = q' + 1 := ⟨q - 1, by omega⟩
      rw [decanterlaw06_Of.l0, if_neg (by omega), List.take_of_length_le (by omega)]
    | succ n ihn =>
      intro i q hi hq
      obtain ⟨q, rfl⟩ : ∃ q', q = q' + 1 := ⟨q - 1, by omega⟩
      obtain ⟨x, hx⟩ := get_at hi
      rw [decanterlaw06_Of.l0, if_pos (by omega), if_pos (by omega), if_pos (by omega), if_pos (by simp [ofA]; omega), rd106 hx, w1 i (by omega)]
      have e : ofA (l.take i) ++ [(⟨x.f0, x.f1⟩ : S105)] = ofA (l.take (i + 1)) := by
        rw [List.take_add_one, hx]
        simp [ofA]
      rw [e]
      exact ihn (i + 1) q (by omega) (by omega)
  have := loop l.length 0 k (by omega) (by omega)
  exact this
theorem ofL_append : ∀ l r : List S38, ofL (l ++ r) = ofL l ++ ofL r
  | [], r => rfl
  | x :: l, r => by simp only [List.cons_append, ofL, ofL_append l r]
theorem of_eq : ∀ W : Nat, ∀ l : List S38, wL l ≤ W → W ≤ 4000000 → ∀ k, 2 * W + 2 ≤ k → decanterlaw12_Of.f k l = some (ofL l) := by
  intro W
  induction W using Nat.strongRecOn with
  | _ W ih =>
  intro l hl hW k hk
  have hlen := len_wL l
  obtain ⟨k, rfl⟩ : ∃ k', k = k' + 1 := ⟨k - 1, by omega⟩
  have loop : ∀ n i q : Nat, i + n = l.length → 2 * W + 1 ≤ q + i → decanterlaw12_Of.l0 q (ofL (l.take i)) l (l.length : Int) (i : Int) = some (ofL l) := by
    intro n
    induction n with
    | zero =>
      intro i q hi hq
      obtain ⟨q, rfl⟩ : ∃ q', q = q' + 1 := ⟨q - 1, by omega⟩
      rw [decanterlaw12_Of.l0, if_neg (by omega), List.take_of_length_le (by omega)]
    | succ n ihn =>
      intro i q hi hq
      obtain ⟨q, rfl⟩ : ∃ q', q = q' + 1 := ⟨q - 1, by omega⟩
      obtain ⟨x, hx⟩ := get_at hi
      have hw := wL_at hx
      rw [decanterlaw12_Of.l0, if_pos (by omega), if_pos (by omega), if_pos (by omega), rd38 hx, ofA_eq x.f1 (by omega) q (by omega), Option.bind_some, ih (W - l.length) (by omega) x.f3 (by omega) (by omega) q (by omega), Option.bind_some,
        if_pos (by rw [ofL_length, List.length_take]; omega), w1 i (by omega)]
      have e : ofL (l.take i) ++ [(⟨x.f0, ofA x.f1, x.f2, ofL x.f3⟩ : S31)] = ofL (l.take (i + 1)) := by
        rw [List.take_add_one, hx, ofL_append, ← ofN_eq]
        rfl
      rw [e]
      exact ihn (i + 1) q (by omega) (by omega)
  have := loop l.length 0 k (by omega) (by omega)
  rw [decanterlaw12_Of.f]
  exact this
theorem mx_nat (a b : Nat) : mx (a : Int) (b : Int) = ((max a b : Nat) : Int) := by
  unfold mx
  split
  · omega
  · omega
theorem count_eq : ∀ W : Nat, ∀ l : List S31, cL l ≤ W → W ≤ 20000000 → ∀ k, 2 * W + 2 ≤ k → arena_Count.f k l = some ((cL l : Int), (eL l : Int)) := by
  intro W
  induction W using Nat.strongRecOn with
  | _ W ih =>
  intro l hl hW k hk
  have hlen := len_cL l
  obtain ⟨k, rfl⟩ : ∃ k', k = k' + 1 := ⟨k - 1, by omega⟩
  have loop : ∀ n i a b q : Nat, i + n = l.length → a + cL (l.drop i) ≤ W → 2 * W + 1 ≤ q + i → arena_Count.l0 q (a : Int) (b : Int) l (l.length : Int) (i : Int) = some (((a + cL (l.drop i) : Nat) : Int), ((max b (eL (l.drop i)) : Nat) : Int)) := by
    intro n
    induction n with
    | zero =>
      intro i a b q hi ha hq
      obtain ⟨q, rfl⟩ : ∃ q', q = q' + 1 := ⟨q - 1, by omega⟩
      rw [arena_Count.l0, if_neg (by omega), none_at hi, eL, cL, Nat.max_eq_left (Nat.zero_le _)]
      rfl
    | succ n ihn =>
      intro i a b q hi ha hq
      obtain ⟨q, rfl⟩ : ∃ q', q = q' + 1 := ⟨q - 1, by omega⟩
      obtain ⟨x, hx⟩ := get_at hi
      have hw := cL_at hx
      have hd := e_cL x.f3
      have e1 := eN_eq x
      have e2 := cN_eq x
      rw [drop_at hx, cL] at ha
      rw [arena_Count.l0, if_pos (by omega), if_pos (by omega), if_pos (by omega), rd31 hx, ih (W - l.length) (by omega) x.f3 (by omega) (by omega) q (by omega), Option.bind_some]
      simp only
      rw [w1 _ (by omega), w1 _ (by omega), w1 i (by omega), w2 a _ (by omega), mx_nat, ihn (i + 1) _ _ q (by omega) (by omega) (by omega), drop_at hx, cL, eL, e1, e2]
      congr 3
      · omega
      · omega
  rw [arena_Count.f, show (0 : Int) = ((0 : Nat) : Int) from rfl, loop l.length 0 0 0 k (by omega) (by rw [List.drop_zero]; omega) (by omega), List.drop_zero, Nat.max_eq_right (Nat.zero_le _), Nat.zero_add]
theorem few_eq (l : List S38) (hl : wL l ≤ 4000000) (k : Nat) (hk : 8000002 ≤ k) : decanterlaw12_few.f k l = some (decide (nL l ≤ 60 ∧ dL l ≤ 20)) := by
  unfold decanterlaw12_few.f
  rw [many_eq 4000000 l hl (by omega) k (by omega), Option.bind_some]
  by_cases h : nL l ≤ 60
  · rw [if_pos (by omega), deep_eq 4000000 l hl (by omega) k (by omega), Option.bind_some]
    congr 1
    rw [Bool.eq_iff_iff, decide_eq_true_iff, decide_eq_true_iff]
    omega
  · rw [if_neg (by omega)]
    congr 1
    rw [Bool.eq_iff_iff, decide_eq_true_iff]
    constructor
    · intro e; cases e
    · omega
theorem deep_zero : ∀ l : List S38, (l.length = 0 ↔ dL l = 0)
  | [] => by simp [dL]
  | x :: r => by have := dN_eq x; simp only [dL, List.length_cons]; omega
theorem alike_eq (l r : List S106) (hl : l.length ≤ 4000000) (k : Nat) (hk : l.length + 1 ≤ k) : decanterref06_Alike.f k l r = some (arena_Same.sa (ofA l) (ofA r)) := by
  unfold decanterref06_Alike.f
  by_cases he : l.length = r.length
  · rw [if_pos (by omega)]
    have loop : ∀ n i q : Nat, i + n = l.length → n + 1 ≤ q → decanterref06_Alike.l0 q l r (i : Int) = some (arena_Same.sa (ofA (l.drop i)) (ofA (r.drop i))) := by
      intro n
      induction n with
      | zero =>
        intro i q hi hq
        obtain ⟨q, rfl⟩ : ∃ q', q = q' + 1 := ⟨q - 1, by omega⟩
        rw [decanterref06_Alike.l0, if_neg (by omega), none_at hi, none_at (l := r) (i := i) (by omega)]
        rfl
      | succ n ihn =>
        intro i q hi hq
        obtain ⟨q, rfl⟩ : ∃ q', q = q' + 1 := ⟨q - 1, by omega⟩
        obtain ⟨x, hx⟩ := get_at hi
        obtain ⟨y, hy⟩ := get_at (l := r) (i := i) (n := n) (by omega)
        have e : arena_Same.sa (ofA (l.drop i)) (ofA (r.drop i)) = (((x.f0.toList == y.f0.toList) && (x.f1.toList == y.f1.toList)) && arena_Same.sa (ofA (l.drop (i + 1))) (ofA (r.drop (i + 1)))) := by
          rw [drop_at hx, drop_at hy]
          simp only [ofA, List.map_cons, arena_Same.sa]
        rw [decanterref06_Alike.l0, if_pos (by omega), if_pos (by omega), if_pos (by omega), rd106 hx, rd106 hy, w1 i (by omega), ihn (i + 1) q (by omega) (by omega), e]
        cases x.f0.toList == y.f0.toList <;> cases x.f1.toList == y.f1.toList <;> simp
    have := loop l.length 0 k (by omega) (by omega)
    exact this
  · rw [if_neg (by omega), arena_Same.sa_len (by simp only [ofA, List.length_map]; exact he)]
theorem same_eq : ∀ W : Nat, ∀ l r : List S38, wL l ≤ W → W ≤ 4000000 → ∀ k, 2 * W + 2 ≤ k → decanterref12_Same.f k l r = some (arena_Same.sl (ofL l) (ofL r)) := by
  intro W
  induction W using Nat.strongRecOn with
  | _ W ih =>
  intro l r hl hW k hk
  have hlen := len_wL l
  obtain ⟨k, rfl⟩ : ∃ k', k = k' + 1 := ⟨k - 1, by omega⟩
  rw [decanterref12_Same.f]
  by_cases he : l.length = r.length
  · rw [if_pos (by omega)]
    have loop : ∀ n i q : Nat, i + n = l.length → 2 * W + 1 ≤ q + i → decanterref12_Same.l0 q l r (i : Int) = some (arena_Same.sl (ofL (l.drop i)) (ofL (r.drop i))) := by
      intro n
      induction n with
      | zero =>
        intro i q hi hq
        obtain ⟨q, rfl⟩ : ∃ q', q = q' + 1 := ⟨q - 1, by omega⟩
        rw [decanterref12_Same.l0, if_neg (by omega), none_at hi, none_at (l := r) (i := i) (by omega)]
        simp only [ofL, arena_Same.sl]
      | succ n ihn =>
        intro i q hi hq
        obtain ⟨q, rfl⟩ : ∃ q', q = q' + 1 := ⟨q - 1, by omega⟩
        obtain ⟨x, hx⟩ := get_at hi
        obtain ⟨y, hy⟩ := get_at (l := r) (i := i) (n := n) (by omega)
        have hw := wL_at hx
        have e : arena_Same.sl (ofL (l.drop i)) (ofL (r.drop i)) = (((((x.f0.toList == y.f0.toList) && (x.f2.toList == y.f2.toList)) && arena_Same.sa (ofA x.f1) (ofA y.f1)) && arena_Same.sl (ofL x.f3) (ofL y.f3)) && arena_Same.sl (ofL (l.drop (i + 1))) (ofL (r.drop (i + 1)))) := by
          rw [drop_at hx, drop_at hy]
          simp only [ofL, arena_Same.sl, arena_Same.sn_eq, ofN_eq]
        rw [decanterref12_Same.l0, if_pos (by omega), if_pos (by omega), if_pos (by omega), rd38 hx, rd38 hy, w1 i (by omega), ihn (i + 1) q (by omega) (by omega), e]
        by_cases e0 : x.f0.toList = y.f0.toList
        · by_cases e2 : x.f2.toList = y.f2.toList
          · rw [if_pos e0, if_pos e2, alike_eq x.f1 y.f1 (by omega) q (by omega), Option.bind_some, beq_iff_eq.2 e0, beq_iff_eq.2 e2]
            cases hs : arena_Same.sa (ofA x.f1) (ofA y.f1)
            · simp
            · rw [if_pos rfl, ih (W - l.length) (by omega) x.f3 y.f3 (by omega) (by omega) q (by omega), Option.bind_some]
              cases hs2 : arena_Same.sl (ofL x.f3) (ofL y.f3)
              · simp
              · simp
          · rw [if_pos e0, if_neg e2, beq_eq_false_iff_ne.2 e2]
            simp
        · rw [if_neg e0, beq_eq_false_iff_ne.2 e0]
          simp
    have := loop l.length 0 k (by omega) (by omega)
    exact this
  · rw [if_neg (by omega), arena_Same.sl_len (by rw [ofL_length, ofL_length]; exact he)]
theorem sa_refl : ∀ l : List S105, arena_Same.sa l l = true
  | [] => rfl
  | x :: r => by simp [arena_Same.sa, sa_refl r]
mutual
theorem sl_refl : ∀ l : List S31, arena_Same.sl l l = true
  | [] => by simp [arena_Same.sl]
  | x :: r => by simp only [arena_Same.sl, sl_refl r, sn_refl x, Bool.and_self]
theorem sn_refl : ∀ x : S31, arena_Same.sn x x = true
  | ⟨n, a, t, i⟩ => by simp [arena_Same.sn, sl_refl i, sa_refl a]
end
theorem counts (l0 l1 : List S38) (h : wL l0 + wL l1 ≤ 4000000) : ∃ k, decanterlaw12_ArenaSames.f k l0 l1 = some true := by
  refine ⟨50000001, ?_⟩
  have a0 := n_wL l0
  have b0 := d_nL l0
  have done : decanterlaw12_ArenaSames.j0 50000001 l0 l1 true = some true := by
    rw [decanterlaw12_ArenaSames.j0, if_pos rfl]
    rfl
  unfold decanterlaw12_ArenaSames.f decanterlaw12_speaks.f
  rw [Option.bind_some, if_pos rfl, few_eq l0 (by omega) _ (by omega), Option.bind_some]
  by_cases h0 : nL l0 ≤ 60 ∧ dL l0 ≤ 20
  · rw [decide_eq_true h0, if_pos rfl, few_eq l1 (by omega) _ (by omega), Option.bind_some]
    by_cases h1 : nL l1 ≤ 60 ∧ dL l1 ≤ 20
    · rw [decide_eq_true h1]
      rw [decanterlaw12_ArenaSames.j0, if_neg (by decide), of_eq 4000000 l0 (by omega) (by omega) _ (by omega), Option.bind_some, of_eq 4000000 l1 (by omega) (by omega) _ (by omega), Option.bind_some,
        count_eq 20000000 (ofL l0) (by rw [cL_of]; omega) (by omega) _ (by omega), Option.bind_some, arena_Same.f, Option.bind_some, same_eq 4000000 l0 l1 (by omega) (by omega) _ (by omega), Option.bind_some,
        if_pos (by simp), arena_Same.f, Option.bind_some, if_pos (sl_refl _), many_eq 4000000 l0 (by omega) (by omega) _ (by omega), Option.bind_some]
      simp only
      rw [if_pos (by rw [cL_of]), deep_eq 4000000 l0 (by omega) (by omega) _ (by omega), Option.bind_some, eL_of]
      simp
    · rw [decide_eq_false h1]
      exact done
  · rw [decide_eq_false h0, if_neg (by decide)]
    exact done
end Go.Proofs.Ytcdkcnegejhnhaa.PASam
