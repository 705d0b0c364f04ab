/-
  ArenaActs: what the plain laws of the earlier arena laws serve here: the program's nodes as the document's; what stands in a place; what a move makes of the nodes.
-/
import Derived.Test.YtcdkcnegejhnhaaArMove
import Derived.Test.YtcdkcnegejhnhaaArSpeaks
import Derived.Test.YtcdkcnegejhnhaaAaP
namespace Go.Proofs.Ytcdkcnegejhnhaa.PAr
open Go.RowKit Go.Proofs.YtcdkcnegejhnhaaW.PrintWords Go.Proofs.YtcdkcnegejhnhaaW.PrintLast Go.Proofs.YtcdkcnegejhnhaaW.PrintMore
set_option linter.unusedVariables false
def ofA (l : List S106) : List S105 := l.map fun x => ⟨x.f0, x.f1⟩
theorem drop_at {α : Type} {l : List α} {i : Nat} {x : α} (h : l[i]? = some x) : l.drop i = x :: l.drop (i + 1) := by
  obtain ⟨hi, rfl⟩ := List.getElem?_eq_some_iff.1 h
  exact List.drop_eq_getElem_cons hi
theorem get_at {α : Type} {l : List α} {i n : Nat} (h : i + (n + 1) = l.length) : ∃ x, l[i]? = some x := ⟨l[i], List.getElem?_eq_getElem (by omega)⟩
theorem rd31 {l : List S31} {i : Nat} {x : S31} (h : l[i]? = some x) : rd_T31 l (i : Int) = x := by
  unfold rd_T31
  rw [Int.toNat_natCast, List.getD_eq_getElem?_getD, h, Option.getD_some]
theorem rd106 {l : List S106} {i : Nat} {x : S106} (h : l[i]? = some x) : rd_T106 l (i : Int) = x := by
  unfold rd_T106
  rw [Int.toNat_natCast, List.getD_eq_getElem?_getD, h, Option.getD_some]
theorem w1 (i : Nat) (h : i ≤ 100000000) : wrap64 ((i : Int) + 1) = ((i + 1 : Nat) : Int) := by rw [Go.IntWalk.wrap64_in _ (by omega)]; rfl
def toA (l : List S105) : List S106 := l.map fun x => ⟨x.f0, x.f1⟩
theorem toA_ofA (l : List S106) : toA (ofA l) = l := by
  unfold toA ofA
  rw [List.map_map]
  exact (List.map_congr_left (g := id) fun x _ => rfl).trans (List.map_id _)
mutual
def toL : List S31 → List S38
  | [] => []
  | x :: r => toN x :: toL r
def toN : S31 → S38
  | ⟨n, a, t, i⟩ => ⟨n, toA a, t, toL i⟩
end
theorem toN_eq (x : S31) : toN x = ⟨x.f0, toA x.f1, x.f2, toL x.f3⟩ := by cases x; rfl
theorem toL_length : ∀ l : List S31, (toL l).length = l.length
  | [] => rfl
  | x :: r => by simp only [toL, List.length_cons, toL_length r]
theorem toL_append : ∀ l r : List S31, toL (l ++ r) = toL l ++ toL r
  | [], r => rfl
  | x :: l, r => by simp only [List.cons_append, toL, toL_append l r]
mutual
def xL : List S31 → Nat
  | [] => 0
  | x :: r => xN x + xL r
def xN : S31 → Nat
  | ⟨_, a, _, i⟩ => a.length + xL i + 1
end
theorem xN_eq (x : S31) : xN x = x.f1.length + xL x.f3 + 1 := by cases x; rfl
theorem xL_append : ∀ l r : List S31, xL (l ++ r) = xL l + xL r
  | [], r => by simp [xL]
  | x :: l, r => by simp only [List.cons_append, xL, xL_append l r]; omega
theorem len_xL : ∀ l : List S31, l.length ≤ xL l
  | [] => by simp [xL]
  | x :: r => by have := len_xL r; have := xN_eq x; simp only [xL, List.length_cons]; omega
theorem xL_at {l : List S31} {i : Nat} {x : S31} (h : l[i]? = some x) : l.length + x.f1.length + xL x.f3 ≤ xL l := by
  have e : xL l = xL (l.take i) + (xN x + xL (l.drop (i + 1))) := by
    rw [show xN x + xL (l.drop (i + 1)) = xL (l.drop i) by rw [drop_at h]; rfl, ← xL_append, List.take_append_drop]
  have h1 := len_xL (l.take i)
  have h2 := len_xL (l.drop (i + 1))
  have h3 := xN_eq x
  have hi := (List.getElem?_eq_some_iff.1 h).1
  rw [List.length_take] at h1
  rw [List.length_drop] at h2
  omega
theorem rd105 {l : List S105} {i : Nat} {x : S105} (h : l[i]? = some x) : rd_T105 l (i : Int) = x := by
  unfold rd_T105
  rw [Int.toNat_natCast, List.getD_eq_getElem?_getD, h, Option.getD_some]
theorem ofA_eq (l : List S106) (hl : l.length ≤ 4000000) (k : Nat) (hk : l.length + 1 ≤ k) : decanterlaw06_Of.f k l = some (ofA l) := by
  have loop : ∀ n i q : Nat, i + n = l.length → n + 1 ≤ q → decanterlaw06_Of.l0 q (ofA (l.take i)) l (l.length : Int) (i : Int) = some (ofA l) := by
    intro n
    induction n with
    | zero =>
      intro i q hi hq
      obtain ⟨q, rfl⟩ : ∃ q', q = q' + 1 := ⟨q - 1, by omega⟩
      rw [decanterlaw06_Of.l0, if_neg (by omega), List.take_of_length_le (by omega)]
    | succ n ihn =>
      intro i q hi hq
      obtain ⟨q, rfl⟩ : ∃ q', q = q' + 1 := ⟨q - 1, by omega⟩
      obtain ⟨x, hx⟩ := get_at hi
      rw [decanterlaw06_Of.l0, if_pos (by omega), if_pos (by omega), if_pos (by omega), if_pos (by simp [ofA]; omega), rd106 hx, w1 i (by omega)]
      have e : ofA (l.take i) ++ [(⟨x.f0, x.f1⟩ : S105)] = ofA (l.take (i + 1)) := by
        rw [List.take_add_one, hx]
        simp [ofA]
      rw [e]
      exact ihn (i + 1) q (by omega) (by omega)
  have := loop l.length 0 k (by omega) (by omega)
  exact this
theorem toA_eq (l : List S105) (hl : l.length ≤ 4000000) (k : Nat) (hk : l.length + 1 ≤ k) : decanterlaw06_To.f k l = some (toA l) := by
  have loop : ∀ n i q : Nat, i + n = l.length → n + 1 ≤ q → decanterlaw06_To.l0 q (toA (l.take i)) l (l.length : Int) (i : Int) = some (toA l) := by
    intro n
    induction n with
    | zero =>
      intro i q hi hq
      obtain ⟨q, rfl⟩ : ∃ q', q = q' + 1 := ⟨q - 1, by omega⟩
      rw [decanterlaw06_To.l0, if_neg (by omega), List.take_of_length_le (by omega)]
    | succ n ihn =>
      intro i q hi hq
      obtain ⟨q, rfl⟩ : ∃ q', q = q' + 1 := ⟨q - 1, by omega⟩
      obtain ⟨x, hx⟩ := get_at hi
      rw [decanterlaw06_To.l0, if_pos (by omega), if_pos (by omega), if_pos (by omega), if_pos (by simp [toA]; omega), rd105 hx, w1 i (by omega)]
      have e : toA (l.take i) ++ [(⟨x.f0, x.f1⟩ : S106)] = toA (l.take (i + 1)) := by
        rw [List.take_add_one, hx]
        simp [toA]
      rw [e]
      exact ihn (i + 1) q (by omega) (by omega)
  have := loop l.length 0 k (by omega) (by omega)
  exact this
theorem alike_self (l : List S106) (hl : l.length ≤ 4000000) (k : Nat) (hk : l.length + 1 ≤ k) : decanterref06_Alike.f k l l = some true := by
  unfold decanterref06_Alike.f
  rw [if_pos rfl]
  have loop : ∀ n i q : Nat, i + n = l.length → n + 1 ≤ q → decanterref06_Alike.l0 q l l (i : Int) = some true := by
    intro n
    induction n with
    | zero =>
      intro i q hi hq
      obtain ⟨q, rfl⟩ : ∃ q', q = q' + 1 := ⟨q - 1, by omega⟩
      rw [decanterref06_Alike.l0, if_neg (by omega)]
    | succ n ihn =>
      intro i q hi hq
      obtain ⟨q, rfl⟩ : ∃ q', q = q' + 1 := ⟨q - 1, by omega⟩
      obtain ⟨x, hx⟩ := get_at hi
      rw [decanterref06_Alike.l0, if_pos (by omega), if_pos (by omega), if_pos (by omega), rd106 hx, w1 i (by omega), ihn (i + 1) q (by omega) (by omega)]
      simp
  exact loop l.length 0 k (by omega) (by omega)
end Go.Proofs.Ytcdkcnegejhnhaa.PAr
namespace Go.Proofs.Ytcdkcnegejhnhaa.Ar
open Go.RowKit Go.Proofs.Ytcdkcnegejhnhaa.PAr Go.Proofs.YtcdkcnegejhnhaaW.PrintWords Go.Proofs.YtcdkcnegejhnhaaW.PrintLast Go.Proofs.YtcdkcnegejhnhaaW.PrintMore
theorem setText_get {m : M} {k : Nat} {kd : Nd} {s : ByteArray} (hk : m.nodes[k]? = some kd) (d : Nat) : (m.setText k kd s).nodes[d]? = if d = k then some { kd with text := kd.text ++ s } else m.nodes[d]? := by
  show (m.nodes.set k _)[d]? = _
  by_cases h : d = k
  · subst h
    rw [if_pos rfl, List.getElem?_set_self (List.getElem?_eq_some_iff.1 hk).1]
  · rw [if_neg h, List.getElem?_set_ne (fun e => h e.symm)]
theorem setText_len {m : M} {k : Nat} {kd : Nd} {s : ByteArray} : (m.setText k kd s).nodes.length = m.nodes.length := List.length_set
theorem app_list (a b : ByteArray) : (a ++ b).toList = a.toList ++ b.toList := by
  rw [Lib.toList_data, Lib.toList_data, Lib.toList_data, ByteArray.data_append, Array.toList_append]
theorem list_nil {s : ByteArray} (h : s.toList = []) : s = ⟨#[]⟩ := by
  rw [Lib.toList_data] at h
  have : s.data = #[] := Array.toList_inj.1 h
  exact congrArg ByteArray.mk this
theorem exp_at {m : M} {p f : Nat} {pd : Nd} (hpd : m.nodes[p]? = some pd) : m.exp (f + 1) p = m.expL (fun k => m.exp f k) pd.inner := by
  rw [M.exp, hpd]
/-- A node that is put elsewhere. -/
theorem put_nodes {m : M} {k p q : Nat} {kd pd qd : Nd} (hk : m.nodes[k]? = some kd) (hkp : kd.parent = some p) (hpd : m.nodes[p]? = some pd) (hqd : m.nodes[q]? = some qd) (h1 : k ≠ p) (h2 : k ≠ q) (h3 : p ≠ q) :
    (m.put q k).nodes[p]? = some { pd with inner := pd.inner.filter (· != k) } ∧ (m.put q k).nodes[q]? = some { qd with inner := qd.inner ++ [k] } ∧ (m.put q k).nodes[k]? = some { kd with parent := some q } ∧
      ∀ d, d ≠ p → d ≠ q → d ≠ k → (m.put q k).nodes[d]? = m.nodes[d]? := by
  have lk := (List.getElem?_eq_some_iff.1 hk).1
  have lp := (List.getElem?_eq_some_iff.1 hpd).1
  have lq := (List.getElem?_eq_some_iff.1 hqd).1
  have e1 : m.leave k = { m with nodes := m.nodes.set p { pd with inner := pd.inner.filter (· != k) } } := by
    unfold M.leave
    simp only [hk, hkp, hpd]
  have e2 : (m.leave k).setPar k q = { m with nodes := (m.nodes.set p { pd with inner := pd.inner.filter (· != k) }).set k { kd with parent := some q } } := by
    rw [e1]
    unfold M.setPar
    have : (m.nodes.set p { pd with inner := pd.inner.filter (· != k) })[k]? = some kd := by rw [List.getElem?_set_ne (fun e => h1 e.symm), hk]
    simp only [this]
  have e3 : m.put q k = { m with nodes := ((m.nodes.set p { pd with inner := pd.inner.filter (· != k) }).set k { kd with parent := some q }).set q { qd with inner := qd.inner ++ [k] } } := by
    unfold M.put
    rw [e2]
    unfold M.addInner
    have : ((m.nodes.set p { pd with inner := pd.inner.filter (· != k) }).set k { kd with parent := some q })[q]? = some qd := by rw [List.getElem?_set_ne h2, List.getElem?_set_ne h3, hqd]
    simp only [this]
  rw [e3]
  refine ⟨?_, ?_, ?_, fun d d1 d2 d3 => ?_⟩
  · show (List.set _ q _)[p]? = _
    rw [List.getElem?_set_ne (fun e => h3 e.symm), List.getElem?_set_ne h1, List.getElem?_set_self lp]
  · show (List.set _ q _)[q]? = _
    rw [List.getElem?_set_self (by rw [List.length_set, List.length_set]; exact lq)]
  · show (List.set _ q _)[k]? = _
    rw [List.getElem?_set_ne (fun e => h2 e.symm), List.getElem?_set_self (by rw [List.length_set]; exact lk)]
  · show (List.set _ q _)[d]? = _
    rw [List.getElem?_set_ne (fun e => d2 e.symm), List.getElem?_set_ne (fun e => d3 e.symm), List.getElem?_set_ne (fun e => d1 e.symm)]
/-- On the way: done has been moved, rest is still to be. -/
structure MvS (m m' : M) (p q : Nat) (pd qd : Nd) (done rest : List Nat) : Prop where
  np : m'.nodes[p]? = some { pd with inner := rest }
  nq : m'.nodes[q]? = some { qd with inner := qd.inner ++ done }
  oth : ∀ (d : Nat) (nd : Nd), m.nodes[d]? = some nd → d ≠ p → d ≠ q → m'.nodes[d]? = some { nd with parent := if d ∈ done then some q else nd.parent }
theorem MvS.step {m m' : M} {p q k : Nat} {pd qd : Nd} {done rest : List Nat} (h : MvS m m' p q pd qd done (k :: rest)) (hpq : p ≠ q) {kd : Nd} (hk : m.nodes[k]? = some kd) (hkp : kd.parent = some p) (h1 : k ≠ p) (h2 : k ≠ q) (h3 : k ∉ done) (h4 : k ∉ rest) :
    MvS m (m'.put q k) p q pd qd (done ++ [k]) rest := by
  have e := h.oth k kd hk h1 h2
  rw [if_neg h3] at e
  obtain ⟨a1, a2, a3, a4⟩ := put_nodes e hkp h.np h.nq h1 h2 hpq
  have hf : (k :: rest).filter (· != k) = rest := by
    rw [List.filter_cons, if_neg (by simp), List.filter_eq_self]
    intro a ha
    exact bne_iff_ne.2 (fun e => h4 (e ▸ ha))
  refine ⟨by rw [a1]; simp only [hf], by rw [a2]; simp only [List.append_assoc], fun d nd hd d1 d2 => ?_⟩
  by_cases hdk : d = k
  · subst hdk
    obtain rfl := Option.some.inj (hk.symm.trans hd)
    rw [a3, if_pos (List.mem_append.2 (.inr (List.mem_singleton.2 rfl)))]
  · rw [a4 d d1 d2 hdk, h.oth d nd hd d1 d2]
    by_cases hm : d ∈ done
    · rw [if_pos hm, if_pos (List.mem_append.2 (.inl hm))]
    · rw [if_neg hm, if_neg (fun e => (List.mem_append.1 e).elim hm (fun e => hdk (List.mem_singleton.1 e)))]
theorem MvS.all {m : M} {p q : Nat} {pd qd : Nd} (hpq : p ≠ q) : ∀ (rest done : List Nat) (m' : M), MvS m m' p q pd qd done rest → (done ++ rest).Nodup → (∀ k ∈ rest, ∃ kd, m.nodes[k]? = some kd ∧ kd.parent = some p ∧ k ≠ p ∧ k ≠ q) →
    MvS m (m'.moveL q rest) p q pd qd (done ++ rest) []
  | [], done, m', h, _, _ => by rw [List.append_nil]; exact h
  | k :: rest, done, m', h, hn, hk => by
    obtain ⟨kd, k1, k2, k3, k4⟩ := hk k (List.mem_cons_self ..)
    have hn2 := List.nodup_append.1 hn
    have h3 : k ∉ done := fun e => hn2.2.2 k e k (List.mem_cons_self ..) rfl
    have h4 : k ∉ rest := (List.nodup_cons.1 hn2.2.1).1
    have := MvS.all hpq rest (done ++ [k]) (m'.put q k) (h.step hpq k1 k2 k3 k4 h3 h4) (by rw [List.append_assoc]; exact hn) fun j hj => hk j (List.mem_cons_of_mem _ hj)
    rw [List.append_assoc] at this
    exact this
end Go.Proofs.Ytcdkcnegejhnhaa.Ar
