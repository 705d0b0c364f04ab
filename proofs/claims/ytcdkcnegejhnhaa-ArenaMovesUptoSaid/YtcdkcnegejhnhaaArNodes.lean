/-
  Trees of nodes in plain Lean (after PureSames): how many, how deep, turned and back; a row is the same as itself.
-/
import Derived.Test.YtcdkcnegejhnhaaPArx2
import Derived.Test.YtcdkcnegejhnhaaPArx3
import Derived.Test.YtcdkcnegejhnhaaPArx5
import Derived.IntWalk
namespace Go.Proofs.Ytcdkcnegejhnhaa.PAr
open Go.RowKit Go.Proofs.YtcdkcnegejhnhaaW.PrintWords Go.Proofs.YtcdkcnegejhnhaaW.PrintLast Go.Proofs.YtcdkcnegejhnhaaW.PrintMore
set_option linter.unusedVariables false
mutual
def nL : List S38 → Nat
  | [] => 0
  | x :: r => nN x + nL r
def nN : S38 → Nat
  | ⟨_, _, _, i⟩ => nL i + 1
end
mutual
def dL : List S38 → Nat
  | [] => 0
  | x :: r => max (dN x) (dL r)
def dN : S38 → Nat
  | ⟨_, _, _, i⟩ => dL i + 1
end
mutual
def wL : List S38 → Nat
  | [] => 0
  | x :: r => wN x + wL r
def wN : S38 → Nat
  | ⟨_, a, _, i⟩ => a.length + wL i + 1
end
def ofA (l : List S106) : List S105 := l.map fun x => ⟨x.f0, x.f1⟩
mutual
def ofL : List S38 → List S31
  | [] => []
  | x :: r => ofN x :: ofL r
def ofN : S38 → S31
  | ⟨n, a, t, i⟩ => ⟨n, ofA a, t, ofL i⟩
end
mutual
def cL : List S31 → Nat
  | [] => 0
  | x :: r => cN x + cL r
def cN : S31 → Nat
  | ⟨_, _, _, i⟩ => cL i + 1
end
mutual
def eL : List S31 → Nat
  | [] => 0
  | x :: r => max (eN x) (eL r)
def eN : S31 → Nat
  | ⟨_, _, _, i⟩ => eL i + 1
end
theorem nN_eq (x : S38) : nN x = nL x.f3 + 1 := by cases x; rfl
theorem dN_eq (x : S38) : dN x = dL x.f3 + 1 := by cases x; rfl
theorem wN_eq (x : S38) : wN x = x.f1.length + wL x.f3 + 1 := by cases x; rfl
theorem ofN_eq (x : S38) : ofN x = ⟨x.f0, ofA x.f1, x.f2, ofL x.f3⟩ := by cases x; rfl
theorem cN_eq (x : S31) : cN x = cL x.f3 + 1 := by cases x; rfl
theorem eN_eq (x : S31) : eN x = eL x.f3 + 1 := by cases x; rfl
theorem wL_append : ∀ l r : List S38, wL (l ++ r) = wL l + wL r
  | [], r => by simp [wL]
  | x :: l, r => by simp only [List.cons_append, wL, wL_append l r]; omega
theorem cL_append : ∀ l r : List S31, cL (l ++ r) = cL l + cL r
  | [], r => by simp [cL]
  | x :: l, r => by simp only [List.cons_append, cL, cL_append l r]; omega
theorem eL_append : ∀ l r : List S31, eL (l ++ r) = max (eL l) (eL r)
  | [], r => by simp [eL]
  | x :: l, r => by simp only [List.cons_append, eL, eL_append l r]; omega
theorem len_wL : ∀ l : List S38, l.length ≤ wL l
  | [] => by simp [wL]
  | x :: r => by have := len_wL r; have := wN_eq x; simp only [wL, List.length_cons]; omega
theorem len_cL : ∀ l : List S31, l.length ≤ cL l
  | [] => by simp [cL]
  | x :: r => by have := len_cL r; have := cN_eq x; simp only [cL, List.length_cons]; omega
theorem ofL_length : ∀ l : List S38, (ofL l).length = l.length
  | [] => rfl
  | x :: r => by simp only [ofL, List.length_cons, ofL_length r]
mutual
theorem n_wL : ∀ l : List S38, nL l ≤ wL l
  | [] => by simp [nL, wL]
  | x :: r => by have := n_wL r; have := n_wN x; simp only [nL, wL]; omega
theorem n_wN : ∀ x : S38, nN x ≤ wN x
  | ⟨_, a, _, i⟩ => by have := n_wL i; simp only [nN, wN]; omega
end
mutual
theorem d_nL : ∀ l : List S38, dL l ≤ nL l
  | [] => by simp [nL, dL]
  | x :: r => by have := d_nL r; have := d_nN x; simp only [nL, dL]; omega
theorem d_nN : ∀ x : S38, dN x ≤ nN x
  | ⟨_, a, _, i⟩ => by have := d_nL i; simp only [nN, dN]; omega
end
mutual
theorem e_cL : ∀ l : List S31, eL l ≤ cL l
  | [] => by simp [cL, eL]
  | x :: r => by have := e_cL r; have := e_cN x; simp only [cL, eL]; omega
theorem e_cN : ∀ x : S31, eN x ≤ cN x
  | ⟨_, a, _, i⟩ => by have := e_cL i; simp only [cN, eN]; omega
end
mutual
theorem cL_of : ∀ l : List S38, cL (ofL l) = nL l
  | [] => rfl
  | x :: r => by simp only [ofL, cL, nL, cL_of r, cN_of x]
theorem cN_of : ∀ x : S38, cN (ofN x) = nN x
  | ⟨_, a, _, i⟩ => by simp only [ofN, cN, nN, cL_of i]
end
mutual
theorem eL_of : ∀ l : List S38, eL (ofL l) = dL l
  | [] => rfl
  | x :: r => by simp only [ofL, eL, dL, eL_of r, eN_of x]
theorem eN_of : ∀ x : S38, eN (ofN x) = dN x
  | ⟨_, a, _, i⟩ => by simp only [ofN, eN, dN, eL_of i]
end
theorem drop_at {α : Type} {l : List α} {i : Nat} {x : α} (h : l[i]? = some x) : l.drop i = x :: l.drop (i + 1) := by
  obtain ⟨hi, rfl⟩ := List.getElem?_eq_some_iff.1 h
  exact List.drop_eq_getElem_cons hi
theorem wL_at {l : List S38} {i : Nat} {x : S38} (h : l[i]? = some x) : l.length + x.f1.length + wL x.f3 ≤ wL l := by
  have e : wL l = wL (l.take i) + (wN x + wL (l.drop (i + 1))) := by
    rw [show wN x + wL (l.drop (i + 1)) = wL (l.drop i) by rw [drop_at h]; rfl, ← wL_append, List.take_append_drop]
  have h1 := len_wL (l.take i)
  have h2 := len_wL (l.drop (i + 1))
  have h3 := wN_eq x
  have hi := (List.getElem?_eq_some_iff.1 h).1
  rw [List.length_take] at h1
  rw [List.length_drop] at h2
  omega
theorem cL_at {l : List S31} {i : Nat} {x : S31} (h : l[i]? = some x) : l.length + cL x.f3 ≤ cL l := by
  have e : cL l = cL (l.take i) + (cN x + cL (l.drop (i + 1))) := by
    rw [show cN x + cL (l.drop (i + 1)) = cL (l.drop i) by rw [drop_at h]; rfl, ← cL_append, List.take_append_drop]
  have h1 := len_cL (l.take i)
  have h2 := len_cL (l.drop (i + 1))
  have h3 := cN_eq x
  have hi := (List.getElem?_eq_some_iff.1 h).1
  rw [List.length_take] at h1
  rw [List.length_drop] at h2
  omega
theorem rd38 {l : List S38} {i : Nat} {x : S38} (h : l[i]? = some x) : rd_T38 l (i : Int) = x := by
  unfold rd_T38
  rw [Int.toNat_natCast, List.getD_eq_getElem?_getD, h, Option.getD_some]
theorem rd31 {l : List S31} {i : Nat} {x : S31} (h : l[i]? = some x) : rd_T31 l (i : Int) = x := by
  unfold rd_T31
  rw [Int.toNat_natCast, List.getD_eq_getElem?_getD, h, Option.getD_some]
theorem rd106 {l : List S106} {i : Nat} {x : S106} (h : l[i]? = some x) : rd_T106 l (i : Int) = x := by
  unfold rd_T106
  rw [Int.toNat_natCast, List.getD_eq_getElem?_getD, h, Option.getD_some]
theorem w1 (i : Nat) (h : i ≤ 100000000) : wrap64 ((i : Int) + 1) = ((i + 1 : Nat) : Int) := by rw [Go.IntWalk.wrap64_in _ (by omega)]; rfl
theorem w2 (i j : Nat) (h : i + j ≤ 100000000) : wrap64 ((i : Int) + (j : Int)) = ((i + j : Nat) : Int) := by rw [Go.IntWalk.wrap64_in _ (by omega)]; rfl
theorem nL_drop_le (l : List S38) (i : Nat) : nL (l.drop i) ≤ wL l := by
  have h1 := n_wL (l.drop i)
  have h2 := wL_append (l.take i) (l.drop i)
  rw [List.take_append_drop] at h2
  omega
def iL : List S38 → Nat
  | [] => 0
  | x :: r => nL x.f3 + iL r
theorem nL_iL : ∀ l : List S38, nL l = l.length + iL l
  | [] => rfl
  | x :: r => by have := nL_iL r; have := nN_eq x; simp only [nL, iL, List.length_cons]; omega
theorem none_at {α : Type} {l : List α} {i : Nat} (h : i + 0 = l.length) : l.drop i = [] := by rw [List.drop_eq_nil_iff]; omega
theorem get_at {α : Type} {l : List α} {i n : Nat} (h : i + (n + 1) = l.length) : ∃ x, l[i]? = some x := ⟨l[i], List.getElem?_eq_getElem (by omega)⟩
theorem many_eq : ∀ W : Nat, ∀ l : List S38, wL l ≤ W → W ≤ 4000000 → ∀ k, 2 * W + 2 ≤ k → decanterref12_Many.f k l = some (nL l : Int) := by
  intro W
  induction W using Nat.strongRecOn with
  | _ W ih =>
  intro l hl hW k hk
  have hlen := len_wL l
  obtain ⟨k, rfl⟩ : ∃ k', k = k' + 1 := ⟨k - 1, by omega⟩
  have loop : ∀ n i a q : Nat, i + n = l.length → a + iL (l.drop i) ≤ 20000000 → 2 * W + 1 ≤ q + i → decanterref12_Many.l0 q l (a : Int) (i : Int) = some ((a + iL (l.drop i) : Nat) : Int) := by
    intro n
    induction n with
    | zero =>
      intro i a q hi ha hq
      obtain ⟨q, rfl⟩ : ∃ q', q = q' + 1 := ⟨q - 1, by omega⟩
      rw [decanterref12_Many.l0, if_neg (by omega), none_at hi]
      rfl
    | succ n ihn =>
      intro i a q hi ha hq
      obtain ⟨q, rfl⟩ : ∃ q', q = q' + 1 := ⟨q - 1, by omega⟩
      obtain ⟨x, hx⟩ := get_at hi
      have hw := wL_at hx
      rw [drop_at hx, iL] at ha
      rw [decanterref12_Many.l0, if_pos (by omega), if_pos (by omega), rd38 hx, ih (W - l.length) (by omega) x.f3 (by omega) (by omega) q (by omega), Option.bind_some, w2 a _ (by omega), w1 i (by omega),
        ihn (i + 1) _ q (by omega) (by omega) (by omega), drop_at hx, iL, Nat.add_assoc]
  have hi := nL_iL l
  have hn := n_wL l
  rw [decanterref12_Many.f, show (0 : Int) = ((0 : Nat) : Int) from rfl, loop l.length 0 l.length k (by omega) (by rw [List.drop_zero]; omega) (by omega), List.drop_zero, hi]
theorem deep_eq : ∀ W : Nat, ∀ l : List S38, wL l ≤ W → W ≤ 4000000 → ∀ k, 2 * W + 2 ≤ k → decanterref12_Deep.f k l = some (dL l : Int) := by
  intro W
  induction W using Nat.strongRecOn with
  | _ W ih =>
  intro l hl hW k hk
  have hlen := len_wL l
  obtain ⟨k, rfl⟩ : ∃ k', k = k' + 1 := ⟨k - 1, by omega⟩
  have loop : ∀ n i a q : Nat, i + n = l.length → 2 * W + 1 ≤ q + i → decanterref12_Deep.l0 q l (a : Int) (i : Int) = some ((max a (dL (l.drop i)) : Nat) : Int) := by
    intro n
    induction n with
    | zero =>
      intro i a q hi hq
      obtain ⟨q, rfl⟩ : ∃ q', q = q' + 1 := ⟨q - 1, by omega⟩
      rw [decanterref12_Deep.l0, if_neg (by omega), none_at hi, dL, Nat.max_eq_left (Nat.zero_le _)]
    | succ n ihn =>
      intro i a q hi hq
      obtain ⟨q, rfl⟩ : ∃ q', q = q' + 1 := ⟨q - 1, by omega⟩
      obtain ⟨x, hx⟩ := get_at hi
      have hw := wL_at hx
      have hd := Nat.le_trans (d_nL x.f3) (n_wL x.f3)
      have e1 := dN_eq x
      rw [decanterref12_Deep.l0, if_pos (by omega), if_pos (by omega), rd38 hx, ih (W - l.length) (by omega) x.f3 (by omega) (by omega) q (by omega), Option.bind_some, w1 _ (by omega), w1 i (by omega),
        ihn (i + 1) (dL x.f3 + 1) q (by omega) (by omega), ihn (i + 1) a q (by omega) (by omega), drop_at hx, dL, e1]
      split
      · congr 2
        omega
      · congr 2
        omega
  rw [decanterref12_Deep.f, show (0 : Int) = ((0 : Nat) : Int) from rfl, loop l.length 0 0 k (by omega) (by omega), List.drop_zero, Nat.max_eq_right (Nat.zero_le _)]
theorem ofA_eq (l : List S106) (hl : l.length ≤ 4000000) (k : Nat) (hk : l.length + 1 ≤ k) : decanterlaw06_Of.f k l = some (ofA l) := by
  have loop : ∀ n i q : Nat, i + n = l.length → n + 1 ≤ q → decanterlaw06_Of.l0 q (ofA (l.take i)) l (l.length : Int) (i : Int) = some (ofA l) := by
    intro n
    induction n with
    | zero =>
      intro i q hi hq
      obtain ⟨q, rfl⟩ : ∃ q', q = q' + 1 := ⟨q - 1, by omega⟩
      rw [decanterlaw06_Of.l0, if_neg (by omega), List.take_of_length_le (by omega)]
    | succ n ihn =>
      intro i q hi hq
      obtain ⟨q, rfl⟩ : ∃ q', q = q' + 1 := ⟨q - 1, by omega⟩
      obtain ⟨x, hx⟩ := get_at hi
      rw [decanterlaw06_Of.l0, if_pos (by omega), if_pos (by omega), if_pos (by omega), if_pos (by simp [ofA]; omega), rd106 hx, w1 i (by omega)]
      have e : ofA (l.take i) ++ [(⟨x.f0, x.f1⟩ : S105)] = ofA (l.take (i + 1)) := by
        rw [List.take_add_one, hx]
        simp [ofA]
      rw [e]
      exact ihn (i + 1) q (by omega) (by omega)
  have := loop l.length 0 k (by omega) (by omega)
  exact this
theorem few_eq (l : List S38) (hl : wL l ≤ 4000000) (k : Nat) (hk : 8000002 ≤ k) : decanterlaw12_few.f k l = some (decide (nL l ≤ 60 ∧ dL l ≤ 20)) := by
  unfold decanterlaw12_few.f
  rw [many_eq 4000000 l hl (by omega) k (by omega), Option.bind_some]
  by_cases h : nL l ≤ 60
  · rw [if_pos (by omega), deep_eq 4000000 l hl (by omega) k (by omega), Option.bind_some]
    congr 1
    rw [Bool.eq_iff_iff, decide_eq_true_iff, decide_eq_true_iff]
    omega
  · rw [if_neg (by omega)]
    congr 1
    rw [Bool.eq_iff_iff, decide_eq_true_iff]
    constructor
    · intro e; cases e
    · omega
theorem deep_zero : ∀ l : List S38, (l.length = 0 ↔ dL l = 0)
  | [] => by simp [dL]
  | x :: r => by have := dN_eq x; simp only [dL, List.length_cons]; omega

/-! ### back: the program's nodes as the document's -/
def toA (l : List S105) : List S106 := l.map fun x => ⟨x.f0, x.f1⟩
theorem toA_ofA (l : List S106) : toA (ofA l) = l := by
  unfold toA ofA
  rw [List.map_map]
  exact (List.map_congr_left (g := id) fun x _ => rfl).trans (List.map_id _)
mutual
def toL : List S31 → List S38
  | [] => []
  | x :: r => toN x :: toL r
def toN : S31 → S38
  | ⟨n, a, t, i⟩ => ⟨n, toA a, t, toL i⟩
end
theorem toN_eq (x : S31) : toN x = ⟨x.f0, toA x.f1, x.f2, toL x.f3⟩ := by cases x; rfl
theorem toL_length : ∀ l : List S31, (toL l).length = l.length
  | [] => rfl
  | x :: r => by simp only [toL, List.length_cons, toL_length r]
theorem toL_append : ∀ l r : List S31, toL (l ++ r) = toL l ++ toL r
  | [], r => rfl
  | x :: l, r => by simp only [List.cons_append, toL, toL_append l r]
mutual
def xL : List S31 → Nat
  | [] => 0
  | x :: r => xN x + xL r
def xN : S31 → Nat
  | ⟨_, a, _, i⟩ => a.length + xL i + 1
end
theorem xN_eq (x : S31) : xN x = x.f1.length + xL x.f3 + 1 := by cases x; rfl
theorem xL_append : ∀ l r : List S31, xL (l ++ r) = xL l + xL r
  | [], r => by simp [xL]
  | x :: l, r => by simp only [List.cons_append, xL, xL_append l r]; omega
theorem len_xL : ∀ l : List S31, l.length ≤ xL l
  | [] => by simp [xL]
  | x :: r => by have := len_xL r; have := xN_eq x; simp only [xL, List.length_cons]; omega
theorem xL_at {l : List S31} {i : Nat} {x : S31} (h : l[i]? = some x) : l.length + x.f1.length + xL x.f3 ≤ xL l := by
  have e : xL l = xL (l.take i) + (xN x + xL (l.drop (i + 1))) := by
    rw [show xN x + xL (l.drop (i + 1)) = xL (l.drop i) by rw [drop_at h]; rfl, ← xL_append, List.take_append_drop]
  have h1 := len_xL (l.take i)
  have h2 := len_xL (l.drop (i + 1))
  have h3 := xN_eq x
  have hi := (List.getElem?_eq_some_iff.1 h).1
  rw [List.length_take] at h1
  rw [List.length_drop] at h2
  omega
theorem rd105 {l : List S105} {i : Nat} {x : S105} (h : l[i]? = some x) : rd_T105 l (i : Int) = x := by
  unfold rd_T105
  rw [Int.toNat_natCast, List.getD_eq_getElem?_getD, h, Option.getD_some]
theorem toA_eq (l : List S105) (hl : l.length ≤ 4000000) (k : Nat) (hk : l.length + 1 ≤ k) : decanterlaw06_To.f k l = some (toA l) := by
  have loop : ∀ n i q : Nat, i + n = l.length → n + 1 ≤ q → decanterlaw06_To.l0 q (toA (l.take i)) l (l.length : Int) (i : Int) = some (toA l) := by
    intro n
    induction n with
    | zero =>
      intro i q hi hq
      obtain ⟨q, rfl⟩ : ∃ q', q = q' + 1 := ⟨q - 1, by omega⟩
      rw [decanterlaw06_To.l0, if_neg (by omega), List.take_of_length_le (by omega)]
    | succ n ihn =>
      intro i q hi hq
      obtain ⟨q, rfl⟩ : ∃ q', q = q' + 1 := ⟨q - 1, by omega⟩
      obtain ⟨x, hx⟩ := get_at hi
      rw [decanterlaw06_To.l0, if_pos (by omega), if_pos (by omega), if_pos (by omega), if_pos (by simp [toA]; omega), rd105 hx, w1 i (by omega)]
      have e : toA (l.take i) ++ [(⟨x.f0, x.f1⟩ : S106)] = toA (l.take (i + 1)) := by
        rw [List.take_add_one, hx]
        simp [toA]
      rw [e]
      exact ihn (i + 1) q (by omega) (by omega)
  have := loop l.length 0 k (by omega) (by omega)
  exact this
theorem to_eq : ∀ W : Nat, ∀ l : List S31, xL l ≤ W → W ≤ 4000000 → ∀ k, 2 * W + 2 ≤ k → decanterlaw12_To.f k l = some (toL l) := by
  intro W
  induction W using Nat.strongRecOn with
  | _ W ih =>
  intro l hl hW k hk
  have hlen := len_xL l
  obtain ⟨k, rfl⟩ : ∃ k', k = k' + 1 := ⟨k - 1, by omega⟩
  have loop : ∀ n i q : Nat, i + n = l.length → 2 * W + 1 ≤ q + i → decanterlaw12_To.l0 q (toL (l.take i)) l (l.length : Int) (i : Int) = some (toL l) := by
    intro n
    induction n with
    | zero =>
      intro i q hi hq
      obtain ⟨q, rfl⟩ : ∃ q', q = q' + 1 := ⟨q - 1, by omega⟩
      rw [decanterlaw12_To.l0, if_neg (by omega), List.take_of_length_le (by omega)]
    | succ n ihn =>
      intro i q hi hq
      obtain ⟨q, rfl⟩ : ∃ q', q = q' + 1 := ⟨q - 1, by omega⟩
      obtain ⟨x, hx⟩ := get_at hi
      have hw := xL_at hx
      rw [decanterlaw12_To.l0, if_pos (by omega), if_pos (by omega), if_pos (by omega), rd31 hx, toA_eq x.f1 (by omega) q (by omega), Option.bind_some, ih (W - l.length) (by omega) x.f3 (by omega) (by omega) q (by omega), Option.bind_some,
        if_pos (by rw [toL_length, List.length_take]; omega), w1 i (by omega)]
      have e : toL (l.take i) ++ [(⟨x.f0, toA x.f1, x.f2, toL x.f3⟩ : S38)] = toL (l.take (i + 1)) := by
        rw [List.take_add_one, hx, toL_append, ← toN_eq]
        rfl
      rw [e]
      exact ihn (i + 1) q (by omega) (by omega)
  have := loop l.length 0 k (by omega) (by omega)
  rw [decanterlaw12_To.f]
  exact this
/-! ### the same as itself -/
theorem alike_self (l : List S106) (hl : l.length ≤ 4000000) (k : Nat) (hk : l.length + 1 ≤ k) : decanterref06_Alike.f k l l = some true := by
  unfold decanterref06_Alike.f
  rw [if_pos rfl]
  have loop : ∀ n i q : Nat, i + n = l.length → n + 1 ≤ q → decanterref06_Alike.l0 q l l (i : Int) = some true := by
    intro n
    induction n with
    | zero =>
      intro i q hi hq
      obtain ⟨q, rfl⟩ : ∃ q', q = q' + 1 := ⟨q - 1, by omega⟩
      rw [decanterref06_Alike.l0, if_neg (by omega)]
    | succ n ihn =>
      intro i q hi hq
      obtain ⟨q, rfl⟩ : ∃ q', q = q' + 1 := ⟨q - 1, by omega⟩
      obtain ⟨x, hx⟩ := get_at hi
      rw [decanterref06_Alike.l0, if_pos (by omega), if_pos (by omega), if_pos (by omega), rd106 hx, w1 i (by omega), ihn (i + 1) q (by omega) (by omega)]
      simp
  exact loop l.length 0 k (by omega) (by omega)
theorem same_self : ∀ W : Nat, ∀ l : List S38, wL l ≤ W → W ≤ 4000000 → ∀ k, 2 * W + 2 ≤ k → decanterref12_Same.f k l l = some true := by
  intro W
  induction W using Nat.strongRecOn with
  | _ W ih =>
  intro l hl hW k hk
  have hlen := len_wL l
  obtain ⟨k, rfl⟩ : ∃ k', k = k' + 1 := ⟨k - 1, by omega⟩
  rw [decanterref12_Same.f, if_pos rfl]
  have loop : ∀ n i q : Nat, i + n = l.length → 2 * W + 1 ≤ q + i → decanterref12_Same.l0 q l l (i : Int) = some true := by
    intro n
    induction n with
    | zero =>
      intro i q hi hq
      obtain ⟨q, rfl⟩ : ∃ q', q = q' + 1 := ⟨q - 1, by omega⟩
      rw [decanterref12_Same.l0, if_neg (by omega)]
    | succ n ihn =>
      intro i q hi hq
      obtain ⟨q, rfl⟩ : ∃ q', q = q' + 1 := ⟨q - 1, by omega⟩
      obtain ⟨x, hx⟩ := get_at hi
      have hw := wL_at hx
      rw [decanterref12_Same.l0, if_pos (by omega), if_pos (by omega), if_pos (by omega), rd38 hx, w1 i (by omega), ihn (i + 1) q (by omega) (by omega), if_pos rfl, if_pos rfl, alike_self x.f1 (by omega) q (by omega), Option.bind_some, if_pos rfl,
        ih (W - l.length) (by omega) x.f3 (by omega) (by omega) q (by omega), Option.bind_some, if_pos rfl]
  exact loop l.length 0 k (by omega) (by omega)
end Go.Proofs.Ytcdkcnegejhnhaa.PAr
