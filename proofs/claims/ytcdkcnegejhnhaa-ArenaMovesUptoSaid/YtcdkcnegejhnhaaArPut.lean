/-
  Arenas: the laws' closure put, as a model: nodes of a tree are put into an arena, one by one; what stands there then.
-/
import Derived.Test.YtcdkcnegejhnhaaArText
import Derived.Test.YtcdkcnegejhnhaaArExp
import Derived.Test.YtcdkcnegejhnhaaArNodes
namespace Go.Proofs.Ytcdkcnegejhnhaa.Ar
open Go.RowKit Go.Proofs.Ytcdkcnegejhnhaa.PAr Go.Proofs.YtcdkcnegejhnhaaW.PrintWords Go.Proofs.YtcdkcnegejhnhaaW.PrintLast Go.Proofs.YtcdkcnegejhnhaaW.PrintMore
set_option linter.unusedVariables false
/-! ### the model -/
namespace M
def child (m : M) (i : Nat) (name : ByteArray) (attrs : List S105) : M := (m.element name attrs).append i m.elems.length
mutual
def putL : M → Nat → List S38 → M
  | m, _, [] => m
  | m, i, x :: r => putL (putN m i x) i r
def putN : M → Nat → S38 → M
  | m, i, ⟨n, a, t, inn⟩ => if n.toList = [] then m.text i t else putL (m.child i n (ofA a)) m.elems.length inn
end
/-- One node more, at a place. -/
def grow (m : M) (p : Nat) (pd x : Nd) (E : List Nat) : M := ⟨m.nodes.set p { pd with inner := pd.inner ++ [m.nodes.length] } ++ [{ x with parent := some p }], E, m.copies⟩
end M
theorem putN_eq (m : M) (i : Nat) (x : S38) : m.putN i x = if x.f0.toList = [] then m.text i x.f2 else (m.child i x.f0 (ofA x.f1)).putL m.elems.length x.f3 := by cases x; rw [M.putN]
theorem putL_cons (m : M) (i : Nat) (x : S38) (r : List S38) : m.putL i (x :: r) = (m.putN i x).putL i r := by rw [M.putL]
theorem putL_nil (m : M) (i : Nat) : m.putL i [] = m := by rw [M.putL]
structure Inv (m : M) (T : Nat) : Prop where
  els : ∀ (i p : Nat), m.elems[i]? = some p → p < m.nodes.length
  uni : ∀ (i j p : Nat), m.elems[i]? = some p → m.elems[j]? = some p → i = j
  par : ∀ (i : Nat) (nd : Nd) (p : Nat), m.nodes[i]? = some nd → nd.parent = some p → p < i
  chl : ∀ (k : Nat) (nd : Nd) (c : Nat), m.nodes[k]? = some nd → c ∈ nd.inner → ∃ cd, m.nodes[c]? = some cd ∧ cd.parent = some k
  nod : ∀ (k : Nat) (nd : Nd), m.nodes[k]? = some nd → nd.inner.Nodup
  txt : ∀ (k : Nat) (nd : Nd), m.nodes[k]? = some nd → 0 < k → nd.name.toList = [] → nd.text.toList ≠ []
  inn : ∀ (k : Nat) (nd : Nd), m.nodes[k]? = some nd → nd.inner.length ≤ m.nodes.length ∧ nd.text.size ≤ T ∧ nd.attrs.length ≤ 4000000
  elen : m.elems.length ≤ m.nodes.length
theorem Inv.chl_lt {m : M} {T : Nat} (h : Inv m T) {k c : Nat} {nd : Nd} (hk : m.nodes[k]? = some nd) (hc : c ∈ nd.inner) : k < c ∧ c < m.nodes.length := by
  obtain ⟨cd, h1, h2⟩ := h.chl k nd c hk hc
  exact ⟨h.par c cd k h1 h2, (List.getElem?_eq_some_iff.1 h1).1⟩
theorem Inv.wf {m : M} {T B : Nat} (h : Inv m T) (hB : m.nodes.length ≤ B) : WF m B T where
  els := h.els
  par := fun i nd hi p hp => by have := h.par i nd p hi hp; have := (List.getElem?_eq_some_iff.1 hi).1; omega
  inn := fun i nd hi => ⟨fun k hk => (h.chl_lt hi hk).2, Nat.le_trans (h.inn i nd hi).1 hB, (h.inn i nd hi).2.1⟩
  nlen := hB
  elen := Nat.le_trans h.elen hB
theorem Inv.sm {m : M} {T : Nat} (h : Inv m T) (hn : m.nodes.length ≤ 1000000) : Sm m where
  att := fun i nd hi => by have := h.inn i nd hi; exact ⟨by omega, by omega⟩
  len := hn
theorem Inv.mono {m : M} {T T' : Nat} (h : Inv m T) (hT : T ≤ T') : Inv m T' := { h with inn := fun k nd hk => by have := h.inn k nd hk; exact ⟨this.1, by omega, this.2.2⟩ }
theorem grow_old {m : M} {p : Nat} {pd x : Nd} {E : List Nat} {k : Nat} (hk : k < m.nodes.length) (hp : k ≠ p) : (m.grow p pd x E).nodes[k]? = m.nodes[k]? := by
  show (m.nodes.set p _ ++ _)[k]? = _
  rw [List.getElem?_append_left (by rw [List.length_set]; exact hk), List.getElem?_set_ne (fun e => hp e.symm)]
theorem grow_at {m : M} {p : Nat} {pd x : Nd} {E : List Nat} (hp : p < m.nodes.length) : (m.grow p pd x E).nodes[p]? = some { pd with inner := pd.inner ++ [m.nodes.length] } := by
  show (m.nodes.set p _ ++ _)[p]? = _
  rw [List.getElem?_append_left (by rw [List.length_set]; exact hp), List.getElem?_set_self hp]
theorem grow_new {m : M} {p : Nat} {pd x : Nd} {E : List Nat} : (m.grow p pd x E).nodes[m.nodes.length]? = some { x with parent := some p } := by
  show (m.nodes.set p _ ++ _)[m.nodes.length]? = _
  rw [List.getElem?_append_right (by rw [List.length_set]; exact Nat.le_refl _), List.length_set, Nat.sub_self]
  rfl
theorem grow_len {m : M} {p : Nat} {pd x : Nd} {E : List Nat} : (m.grow p pd x E).nodes.length = m.nodes.length + 1 := by
  show (m.nodes.set p _ ++ _).length = _
  rw [List.length_append, List.length_set]
  rfl
/-- A node that stands nowhere yet, put at a place. -/
theorem put_new (l : List Nd) (E : List Nat) (cp p : Nat) (pd x : Nd) (hpd : l[p]? = some pd) (hx : x.parent = none) :
    (⟨l ++ [x], E, cp⟩ : M).put p l.length = (⟨l, E, cp⟩ : M).grow p pd x E := by
  have hp : p < l.length := (List.getElem?_eq_some_iff.1 hpd).1
  have g1 : (l ++ [x])[l.length]? = some x := by rw [List.getElem?_append_right (Nat.le_refl _), Nat.sub_self]; rfl
  have hl : (⟨l ++ [x], E, cp⟩ : M).leave l.length = ⟨l ++ [x], E, cp⟩ := by
    unfold M.leave
    simp only [g1, hx]
  have hs : (⟨l ++ [x], E, cp⟩ : M).setPar l.length p = ⟨l ++ [{ x with parent := some p }], E, cp⟩ := by
    unfold M.setPar
    simp only [g1]
    congr 1
    rw [List.set_append_right _ _ (Nat.le_refl _), Nat.sub_self]
    rfl
  have g2 : (l ++ [{ x with parent := some p }])[p]? = some pd := by rw [List.getElem?_append_left hp, hpd]
  unfold M.put
  rw [hl, hs]
  unfold M.addInner M.grow
  simp only [g2]
  congr 1
  rw [List.set_append_left _ _ hp]
theorem child_eq {m : M} {i p : Nat} {pd : Nd} (hi : m.elems[i]? = some p) (hpd : m.nodes[p]? = some pd) (name : ByteArray) (attrs : List S105) :
    m.child i name attrs = m.grow p pd ⟨name, attrs, ⟨#[]⟩, none, []⟩ (m.elems ++ [m.nodes.length]) := by
  have hil : i < m.elems.length := (List.getElem?_eq_some_iff.1 hi).1
  unfold M.child M.element M.append
  have e1 : (m.elems ++ [m.nodes.length])[i]? = some p := by rw [List.getElem?_append_left hil, hi]
  have e2 : (m.elems ++ [m.nodes.length])[m.elems.length]? = some m.nodes.length := by rw [List.getElem?_append_right (Nat.le_refl _), Nat.sub_self]; rfl
  simp only [e1, e2]
  exact put_new m.nodes (m.elems ++ [m.nodes.length]) m.copies p pd ⟨name, attrs, ⟨#[]⟩, none, []⟩ hpd rfl
theorem addText_eq {m : M} {p : Nat} {pd : Nd} (hpd : m.nodes[p]? = some pd) (s : ByteArray) : m.addText p s = m.grow p pd ⟨⟨#[]⟩, [], s, none, []⟩ m.elems :=
  put_new m.nodes m.elems m.copies p pd ⟨⟨#[]⟩, [], s, none, []⟩ hpd rfl
theorem Inv.grow {m : M} {T : Nat} (h : Inv m T) {p : Nat} {pd x : Nd} {E : List Nat} (hpd : m.nodes[p]? = some pd) (hxi : x.inner = []) (hxt : x.name.toList = [] → x.text.toList ≠ []) (hxs : x.text.size ≤ T) (hxa : x.attrs.length ≤ 4000000)
    (hE : E = m.elems ∨ E = m.elems ++ [m.nodes.length]) : Inv (m.grow p pd x E) T := by
  have hp : p < m.nodes.length := (List.getElem?_eq_some_iff.1 hpd).1
  have get : ∀ (k : Nat) (nd : Nd), (m.grow p pd x E).nodes[k]? = some nd → (k = p ∧ nd = { pd with inner := pd.inner ++ [m.nodes.length] }) ∨ (k ≠ p ∧ m.nodes[k]? = some nd) ∨ (k = m.nodes.length ∧ nd = { x with parent := some p }) := by
    intro k nd hk
    have hkl := (List.getElem?_eq_some_iff.1 hk).1
    rw [grow_len] at hkl
    by_cases hkp : k = p
    · subst hkp
      rw [grow_at hp] at hk
      exact .inl ⟨rfl, (Option.some.inj hk).symm⟩
    · by_cases hkn : k = m.nodes.length
      · subst hkn
        rw [grow_new] at hk
        exact .inr (.inr ⟨rfl, (Option.some.inj hk).symm⟩)
      · rw [grow_old (by omega) hkp] at hk
        exact .inr (.inl ⟨hkp, hk⟩)
  have els : ∀ (i q : Nat), E[i]? = some q → m.elems[i]? = some q ∨ (i = m.elems.length ∧ q = m.nodes.length) := by
    intro i q hi
    rcases hE with rfl | rfl
    · exact .inl hi
    · by_cases hil : i < m.elems.length
      · rw [List.getElem?_append_left hil] at hi
        exact .inl hi
      · rw [List.getElem?_append_right (by omega)] at hi
        have : i - m.elems.length = 0 := by
          have := (List.getElem?_eq_some_iff.1 hi).1
          simp at this
          omega
        rw [this] at hi
        exact .inr ⟨by omega, (Option.some.inj hi).symm⟩
  constructor
  · intro i q hi
    rw [grow_len]
    rcases els i q hi with h1 | ⟨_, rfl⟩
    · have := h.els i q h1
      omega
    · omega
  · intro i j q hi hj
    rcases els i q hi with h1 | ⟨rfl, rfl⟩
    · rcases els j q hj with h2 | ⟨rfl, rfl⟩
      · exact h.uni i j q h1 h2
      · have := h.els i _ h1
        omega
    · rcases els j _ hj with h2 | ⟨rfl, _⟩
      · have := h.els j _ h2
        omega
      · rfl
  · intro i nd q hi hq
    rcases get i nd hi with ⟨rfl, rfl⟩ | ⟨_, hi⟩ | ⟨rfl, rfl⟩
    · exact h.par i pd q hpd hq
    · exact h.par i nd q hi hq
    · cases hq
      exact hp
  · intro k nd c hk hc
    have old : ∀ (c k : Nat), (∃ cd, m.nodes[c]? = some cd ∧ cd.parent = some k) → ∃ cd, (m.grow p pd x E).nodes[c]? = some cd ∧ cd.parent = some k := by
      rintro c k ⟨cd, h1, h2⟩
      have hcl := (List.getElem?_eq_some_iff.1 h1).1
      by_cases hcp : c = p
      · subst hcp
        obtain rfl := Option.some.inj (hpd.symm.trans h1)
        exact ⟨_, grow_at hcl, h2⟩
      · exact ⟨cd, by rw [grow_old hcl hcp, h1], h2⟩
    rcases get k nd hk with ⟨rfl, rfl⟩ | ⟨_, hk⟩ | ⟨rfl, rfl⟩
    · rcases List.mem_append.1 hc with hc | hc
      · exact old c k (h.chl k pd c hpd hc)
      · obtain rfl := List.mem_singleton.1 hc
        exact ⟨_, grow_new, rfl⟩
    · exact old c k (h.chl k nd c hk hc)
    · rw [hxi] at hc
      cases hc
  · intro k nd hk
    rcases get k nd hk with ⟨rfl, rfl⟩ | ⟨_, hk⟩ | ⟨rfl, rfl⟩
    · refine List.nodup_append.2 ⟨h.nod k pd hpd, by simp, fun a ha b hb => ?_⟩
      obtain rfl := List.mem_singleton.1 hb
      have := (h.chl_lt hpd ha).2
      omega
    · exact h.nod k nd hk
    · rw [hxi]
      exact List.nodup_nil
  · intro k nd hk h0 hn
    rcases get k nd hk with ⟨rfl, rfl⟩ | ⟨_, hk⟩ | ⟨rfl, rfl⟩
    · exact h.txt k pd hpd h0 hn
    · exact h.txt k nd hk h0 hn
    · exact hxt hn
  · intro k nd hk
    rw [grow_len]
    rcases get k nd hk with ⟨rfl, rfl⟩ | ⟨_, hk⟩ | ⟨rfl, rfl⟩
    · have := h.inn k pd hpd
      refine ⟨?_, this.2⟩
      rw [List.length_append, List.length_singleton]
      omega
    · have := h.inn k nd hk
      exact ⟨by omega, this.2⟩
    · refine ⟨?_, hxs, hxa⟩
      show x.inner.length ≤ _
      rw [hxi]
      exact Nat.zero_le _
  · rw [grow_len]
    have := h.elen
    show E.length ≤ _
    rcases hE with rfl | rfl
    · omega
    · rw [List.length_append, List.length_singleton]
      omega
theorem setText_get {m : M} {k : Nat} {kd : Nd} {s : ByteArray} (hk : m.nodes[k]? = some kd) (d : Nat) : (m.setText k kd s).nodes[d]? = if d = k then some { kd with text := kd.text ++ s } else m.nodes[d]? := by
  show (m.nodes.set k _)[d]? = _
  by_cases h : d = k
  · subst h
    rw [if_pos rfl, List.getElem?_set_self (List.getElem?_eq_some_iff.1 hk).1]
  · rw [if_neg h, List.getElem?_set_ne (fun e => h e.symm)]
theorem setText_len {m : M} {k : Nat} {kd : Nd} {s : ByteArray} : (m.setText k kd s).nodes.length = m.nodes.length := List.length_set
theorem app_list (a b : ByteArray) : (a ++ b).toList = a.toList ++ b.toList := by
  rw [Lib.toList_data, Lib.toList_data, Lib.toList_data, ByteArray.data_append, Array.toList_append]
theorem Inv.setText {m : M} {T : Nat} (h : Inv m T) {k : Nat} {kd : Nd} (s : ByteArray) (hk : m.nodes[k]? = some kd) : Inv (m.setText k kd s) (T + s.size) := by
  have get : ∀ (d : Nat) (nd : Nd), (m.setText k kd s).nodes[d]? = some nd → ∃ od, m.nodes[d]? = some od ∧ nd.name = od.name ∧ nd.attrs = od.attrs ∧ nd.parent = od.parent ∧ nd.inner = od.inner ∧ (nd.text = od.text ∨ nd.text = od.text ++ s) := by
    intro d nd hd
    rw [setText_get hk] at hd
    split at hd
    · rename_i e
      subst e
      obtain rfl := Option.some.inj hd
      exact ⟨kd, hk, rfl, rfl, rfl, rfl, .inr rfl⟩
    · exact ⟨nd, hd, rfl, rfl, rfl, rfl, .inl rfl⟩
  constructor
  · intro i p hi
    rw [setText_len]
    exact h.els i p hi
  · exact h.uni
  · intro i nd p hi hp
    obtain ⟨od, h1, _, _, h3, _⟩ := get i nd hi
    exact h.par i od p h1 (h3 ▸ hp)
  · intro d nd c hd hc
    obtain ⟨od, h1, _, _, _, h4, _⟩ := get d nd hd
    obtain ⟨cd, h5, h6⟩ := h.chl d od c h1 (h4 ▸ hc)
    rw [setText_get hk]
    by_cases e : c = k
    · subst e
      obtain rfl := Option.some.inj (hk.symm.trans h5)
      exact ⟨_, if_pos rfl, h6⟩
    · exact ⟨cd, by rw [if_neg e, h5], h6⟩
  · intro d nd hd
    obtain ⟨od, h1, _, _, _, h4, _⟩ := get d nd hd
    rw [h4]
    exact h.nod d od h1
  · intro d nd hd h0 hn
    obtain ⟨od, h1, h2, _, _, _, h4⟩ := get d nd hd
    have := h.txt d od h1 h0 (h2 ▸ hn)
    rcases h4 with h4 | h4
    · rw [h4]; exact this
    · rw [h4, app_list]
      intro e
      exact this (List.append_eq_nil_iff.1 e).1
  · intro d nd hd
    obtain ⟨od, h1, _, h2, _, h3, h4⟩ := get d nd hd
    have := h.inn d od h1
    rw [setText_len, h3, h2]
    refine ⟨this.1, ?_, this.2.2⟩
    rcases h4 with h4 | h4
    · rw [h4]; omega
    · rw [h4, ByteArray.size_append]; omega
  · rw [setText_len]
    exact h.elen
/-- What becomes of an arena when a text is put into an element. -/
theorem text_cases (m : M) {T : Nat} (h : Inv m T) {i p : Nat} {pd : Nd} (hi : m.elems[i]? = some p) (hpd : m.nodes[p]? = some pd) (s : ByteArray) :
    (s.toList = [] ∧ m.text i s = m) ∨ (s.toList ≠ [] ∧ ∃ ks k kd, pd.inner = ks ++ [k] ∧ m.nodes[k]? = some kd ∧ kd.name.toList = [] ∧ kd.parent = some p ∧ m.text i s = m.setText k kd s) ∨
      (s.toList ≠ [] ∧ (∀ ks k kd, pd.inner = ks ++ [k] → m.nodes[k]? = some kd → kd.name.toList ≠ []) ∧ m.text i s = m.grow p pd ⟨⟨#[]⟩, [], s, none, []⟩ m.elems) := by
  by_cases hs : s.toList = []
  · refine .inl ⟨hs, ?_⟩
    unfold M.text
    rw [hs]
    rfl
  · have hs2 : s.toList.isEmpty = false := by
      cases e : s.toList with
      | nil => exact absurd e hs
      | cons _ _ => rfl
    right
    rcases hin : pd.inner.getLast? with _ | k
    · refine .inr ⟨hs, fun ks k kd e => ?_, ?_⟩
      · rw [e] at hin
        simp at hin
      · unfold M.text
        rw [hs2]
        simp only [hi, hpd, hin, Bool.false_eq_true, if_false]
        exact addText_eq hpd s
    · obtain ⟨ks, hks⟩ := List.getLast?_eq_some_iff.1 hin
      obtain ⟨kd, hkd, hkp⟩ := h.chl p pd k hpd (by rw [hks]; exact List.mem_append.2 (.inr (List.mem_singleton.2 rfl)))
      have hlt := h.par k kd p hkd hkp
      by_cases hn : kd.name.toList = []
      · refine .inl ⟨hs, ks, k, kd, hks, hkd, hn, hkp, ?_⟩
        have ht := h.txt k kd hkd (by omega) hn
        have hT : isT k kd = true := by
          unfold isT
          rw [hn, decide_eq_true (show 0 < k by omega)]
          cases e : kd.text.toList with
          | nil => exact absurd e ht
          | cons _ _ => rfl
        unfold M.text
        rw [hs2]
        simp only [hi, hpd, hin, hkd, hT, Bool.false_eq_true, if_false, if_true]
      · refine .inr ⟨hs, fun ks' k' kd' e he => ?_, ?_⟩
        · rw [hks] at e
          obtain ⟨_, e2⟩ := List.append_inj' e rfl
          obtain rfl := (List.cons.inj e2).1
          obtain rfl := Option.some.inj (hkd.symm.trans he)
          exact hn
        · have hT : isT k kd = false := by
            unfold isT
            cases e : kd.name.toList with
            | nil => exact absurd e hn
            | cons _ _ => simp
          unfold M.text
          rw [hs2]
          simp only [hi, hpd, hin, hkd, hT, Bool.false_eq_true, if_false]
          exact addText_eq hpd s
/-! ### merged nodes -/
/-- A text behind nodes: with the text that is last, or a node of its own, unless it is none. -/
def snocT (out : List S38) (s : ByteArray) : List S38 :=
  match out.getLast? with
  | some y => if y.f0.toList = [] then out.dropLast ++ [⟨y.f0, y.f1, y.f2 ++ s, y.f3⟩] else (if s.toList = [] then out else out ++ [⟨⟨#[]⟩, [], s, []⟩])
  | none => if s.toList = [] then out else out ++ [⟨⟨#[]⟩, [], s, []⟩]
mutual
def mgL : List S38 → List S38 → List S38
  | out, [] => out
  | out, x :: r => mgL (mgN out x) r
def mgN : List S38 → S38 → List S38
  | out, ⟨n, a, t, inn⟩ => if n.toList = [] then snocT out t else out ++ [⟨n, a, ⟨#[]⟩, mgL [] inn⟩]
end
theorem mgL_cons (out : List S38) (x : S38) (r : List S38) : mgL out (x :: r) = mgL (mgN out x) r := by rw [mgL]
theorem mgL_nil (out : List S38) : mgL out [] = out := by rw [mgL]
theorem mgN_eq (out : List S38) (x : S38) : mgN out x = if x.f0.toList = [] then snocT out x.f2 else out ++ [⟨x.f0, x.f1, ⟨#[]⟩, mgL [] x.f3⟩] := by cases x; rw [mgN]
mutual
def tL : List S38 → Nat
  | [] => 0
  | x :: r => tN x + tL r
def tN : S38 → Nat
  | ⟨_, _, t, i⟩ => t.size + tL i
end
theorem tN_eq (x : S38) : tN x = x.f2.size + tL x.f3 := by cases x; rw [tN]
theorem list_nil {s : ByteArray} (h : s.toList = []) : s = ⟨#[]⟩ := by
  rw [Lib.toList_data] at h
  have : s.data = #[] := Array.toList_inj.1 h
  exact congrArg ByteArray.mk this
theorem app_nil {t s : ByteArray} (h : s.toList = []) : t ++ s = t := by
  rw [list_nil h]
  exact ByteArray.append_empty
theorem snocT_nil (out : List S38) {s : ByteArray} (h : s.toList = []) : snocT out s = out := by
  unfold snocT
  cases hl : out.getLast? with
  | none => rw [if_pos h]
  | some y =>
    dsimp only
    rw [app_nil h, if_pos h]
    split
    · obtain ⟨ys, rfl⟩ := List.getLast?_eq_some_iff.1 hl
      rw [List.dropLast_concat]
      cases y
      rfl
    · rfl
theorem snocT_text (a : List S38) (y : S38) (s : ByteArray) (hy : y.f0.toList = []) : snocT (a ++ [y]) s = a ++ [⟨y.f0, y.f1, y.f2 ++ s, y.f3⟩] := by
  unfold snocT
  rw [List.getLast?_concat]
  dsimp only
  rw [if_pos hy, List.dropLast_concat]
theorem snocT_new (out : List S38) {s : ByteArray} (hs : s.toList ≠ []) (h : ∀ a y, out = a ++ [y] → y.f0.toList ≠ []) : snocT out s = out ++ [⟨⟨#[]⟩, [], s, []⟩] := by
  unfold snocT
  cases hl : out.getLast? with
  | none => dsimp only; rw [if_neg hs]
  | some y =>
    obtain ⟨ys, e⟩ := List.getLast?_eq_some_iff.1 hl
    dsimp only
    rw [if_neg (h ys y e), if_neg hs]
/-! ### what stands in a place -/
section
variable {m m' : M} {E E' : Nat → Option (List S31)}
theorem expL_congr : ∀ {ks : List Nat}, (∀ k ∈ ks, m'.nodes[k]? = m.nodes[k]? ∧ E' k = E k) → m'.expL E' ks = m.expL E ks
  | [], _ => by rw [M.expL, M.expL]
  | k :: r, h => by
    obtain ⟨h1, h2⟩ := h k (List.mem_cons_self ..)
    rw [M.expL, M.expL, h1, h2, expL_congr fun j hj => h j (List.mem_cons_of_mem _ hj)]
theorem expL_snoc : ∀ {ks : List Nat} {a : List S31} {k : Nat} {kd : Nd} {inn : List S31}, m.expL E ks = some a → m.nodes[k]? = some kd → E k = some inn → m.expL E (ks ++ [k]) = some (a ++ [⟨kd.name, kd.attrs, kd.text, inn⟩])
  | [], a, k, kd, inn, h, hk, hE => by
    obtain rfl : [] = a := by simpa [M.expL] using h
    show m.expL E [k] = _
    rw [M.expL, hk]
    dsimp only
    rw [hE, M.expL]
    rfl
  | j :: r, a, k, kd, inn, h, hk, hE => by
    rw [M.expL] at h
    rw [List.cons_append, M.expL]
    split at h
    · cases h
    · rename_i jd hj
      obtain ⟨inj, hEj, h⟩ := Option.bind_eq_some_iff.1 h
      obtain ⟨t, ht, rfl⟩ := Option.map_eq_some_iff.1 h
      rw [hEj, Option.bind_some, expL_snoc ht hk hE]
      rfl
theorem expL_back : ∀ {ks : List Nat} {k : Nat} {out : List S31}, m.expL E (ks ++ [k]) = some out → ∃ a kd inn, m.expL E ks = some a ∧ m.nodes[k]? = some kd ∧ E k = some inn ∧ out = a ++ [⟨kd.name, kd.attrs, kd.text, inn⟩]
  | [], k, out, h => by
    rw [List.nil_append, M.expL] at h
    split at h
    · cases h
    · rename_i kd hk
      obtain ⟨inn, hE, h⟩ := Option.bind_eq_some_iff.1 h
      rw [M.expL] at h
      exact ⟨[], kd, inn, by rw [M.expL], hk, hE, (Option.some.inj h).symm⟩
  | j :: r, k, out, h => by
    rw [List.cons_append, M.expL] at h
    split at h
    · cases h
    · rename_i jd hj
      obtain ⟨inj, hEj, h⟩ := Option.bind_eq_some_iff.1 h
      obtain ⟨t, ht, rfl⟩ := Option.map_eq_some_iff.1 h
      obtain ⟨a, kd, inn, h1, h2, h3, rfl⟩ := expL_back ht
      refine ⟨_, kd, inn, ?_, h2, h3, (List.cons_append).symm⟩
      rw [M.expL, hj]
      dsimp only
      rw [hEj, Option.bind_some, h1]
      rfl
end
theorem exp_at {m : M} {p f : Nat} {pd : Nd} (hpd : m.nodes[p]? = some pd) : m.exp (f + 1) p = m.expL (fun k => m.exp f k) pd.inner := by
  rw [M.exp, hpd]
/-- A frame: what an element's filling leaves of all other nodes. -/
structure Fr (m m' : M) (p : Nat) : Prop where
  len : m.nodes.length ≤ m'.nodes.length
  els : ∀ (i q : Nat), m.elems[i]? = some q → m'.elems[i]? = some q
  node : ∀ pd, m.nodes[p]? = some pd → ∃ ns, m'.nodes[p]? = some { pd with inner := pd.inner ++ ns }
  same : ∀ (d : Nat) (nd : Nd), m.nodes[d]? = some nd → d ≠ p → ∃ t, m'.nodes[d]? = some { nd with text := t } ∧ (nd.parent ≠ some p → t = nd.text)
  cop : m'.copies = m.copies
theorem Fr.refl (m : M) (p : Nat) : Fr m m p := ⟨Nat.le_refl _, fun _ _ h => h, fun pd h => ⟨[], by rw [h, List.append_nil]⟩, fun d nd h _ => ⟨nd.text, h, fun _ => rfl⟩, rfl⟩
theorem Fr.trans {m m1 m2 : M} {p : Nat} (h : Fr m m1 p) (k : Fr m1 m2 p) : Fr m m2 p where
  len := Nat.le_trans h.len k.len
  els := fun i q hi => k.els i q (h.els i q hi)
  node := fun pd hpd => by
    obtain ⟨ns, h1⟩ := h.node pd hpd
    obtain ⟨ns2, h2⟩ := k.node _ h1
    exact ⟨ns ++ ns2, by rw [h2, List.append_assoc]⟩
  same := fun d nd hd hp => by
    obtain ⟨t, h1, h2⟩ := h.same d nd hd hp
    obtain ⟨t2, h3, h4⟩ := k.same d _ h1 hp
    exact ⟨t2, h3, fun e => (h4 e).trans (h2 e)⟩
  cop := k.cop.trans h.cop
theorem Fr.exp {m m' : M} {p T : Nat} (hI : Inv m T) (h : Fr m m' p) : ∀ f c : Nat, p < c → c < m.nodes.length → m'.exp f c = m.exp f c
  | 0, _, _, _ => by rw [M.exp, M.exp]
  | f + 1, c, hc, hl => by
    obtain ⟨cd, hcd⟩ : ∃ cd, m.nodes[c]? = some cd := ⟨_, List.getElem?_eq_getElem hl⟩
    obtain ⟨t, h1, _⟩ := h.same c cd hcd (by omega)
    rw [exp_at h1, exp_at hcd]
    refine expL_congr fun d hd => ?_
    have hd2 := hI.chl_lt hcd hd
    obtain ⟨dd, h3, h4⟩ := hI.chl c cd d hcd hd
    obtain ⟨t2, h5, h6⟩ := h.same d dd h3 (by omega)
    refine ⟨?_, Fr.exp hI h f d (by omega) hd2.2⟩
    rw [h5, h3, h6 (by rw [h4]; intro e; injection e with e; omega)]
theorem Fr.setText {m : M} {T p k : Nat} {kd : Nd} (hI : Inv m T) (hk : m.nodes[k]? = some kd) (hp : kd.parent = some p) (s : ByteArray) : Fr m (m.setText k kd s) p where
  len := by rw [setText_len]; exact Nat.le_refl _
  els := fun _ _ h => h
  node := fun pd hpd => by
    have := hI.par k kd p hk hp
    exact ⟨[], by rw [setText_get hk, if_neg (by omega), hpd, List.append_nil]⟩
  same := fun d nd hd hne => by
    rw [setText_get hk]
    by_cases e : d = k
    · subst e
      obtain rfl := Option.some.inj (hk.symm.trans hd)
      exact ⟨kd.text ++ s, by rw [if_pos rfl], fun h => absurd hp h⟩
    · exact ⟨nd.text, by rw [if_neg e, hd], fun _ => rfl⟩
  cop := rfl
theorem Fr.grow {m : M} {p : Nat} {pd x : Nd} {E : List Nat} (hpd : m.nodes[p]? = some pd) (hE : ∀ (i q : Nat), m.elems[i]? = some q → E[i]? = some q) : Fr m (m.grow p pd x E) p where
  len := by rw [grow_len]; omega
  els := hE
  node := fun pd' h => by
    obtain rfl := Option.some.inj (hpd.symm.trans h)
    exact ⟨[m.nodes.length], grow_at (List.getElem?_eq_some_iff.1 hpd).1⟩
  same := fun d nd hd hne => ⟨nd.text, by rw [grow_old (List.getElem?_eq_some_iff.1 hd).1 hne, hd], fun _ => rfl⟩
  cop := rfl
theorem exp_inner {m m' : M} {T p f : Nat} {pd : Nd} (hI : Inv m T) (h : Fr m m' p) (hpd : m.nodes[p]? = some pd) {ks : List Nat} (hks : ∀ d ∈ ks, d ∈ pd.inner) (hn : ∀ d ∈ ks, m'.nodes[d]? = m.nodes[d]?) :
    m'.expL (fun k => m'.exp f k) ks = m.expL (fun k => m.exp f k) ks :=
  expL_congr fun d hd => by
    have := hI.chl_lt hpd (hks d hd)
    exact ⟨hn d hd, h.exp hI f d this.1 this.2⟩
theorem toL_map : ∀ l : List S31, toL l = l.map toN
  | [] => by rw [toL]; rfl
  | x :: r => by rw [toL, toL_map r]; rfl
theorem toL_snoc (a : List S31) (x : S31) : toL (a ++ [x]) = toL a ++ [⟨x.f0, toA x.f1, x.f2, toL x.f3⟩] := by
  rw [toL_append, ← toN_eq]
  rfl
theorem exp_leaf {m : M} {q f : Nat} {x : Nd} (hq : m.nodes[q]? = some x) (hx : x.inner = []) : m.exp (f + 1) q = some [] := by
  rw [exp_at hq, hx, M.expL]
theorem nil_list : (⟨#[]⟩ : ByteArray).toList = [] := by decide +kernel
theorem text_ok (m : M) (T i p : Nat) (pd : Nd) (hI : Inv m T) (hi : m.elems[i]? = some p) (hpd : m.nodes[p]? = some pd) (s : ByteArray) :
    Fr m (m.text i s) p ∧ Inv (m.text i s) (T + s.size) ∧ (m.text i s).nodes.length ≤ m.nodes.length + 1 ∧
      ∀ f out, 1 < f → m.exp f p = some out → ∃ out', (m.text i s).exp f p = some out' ∧ toL out' = snocT (toL out) s := by
  rcases text_cases m hI hi hpd s with ⟨hs, e⟩ | ⟨hs, ks, k, kd, hks, hkd, hn, hkp, e⟩ | ⟨hs, hlast, e⟩
  · rw [e]
    exact ⟨Fr.refl _ _, hI.mono (by omega), by omega, fun f out _ ho => ⟨out, ho, (snocT_nil _ hs).symm⟩⟩
  · rw [e]
    have hF := Fr.setText hI hkd hkp s
    refine ⟨hF, hI.setText s hkd, by rw [setText_len]; omega, fun f out hf ho => ?_⟩
    obtain ⟨f, rfl⟩ : ∃ g, f = g + 1 := ⟨f - 1, by omega⟩
    rw [exp_at hpd, hks] at ho
    obtain ⟨a, kd', inn, h1, h2, h3, rfl⟩ := expL_back ho
    obtain rfl := Option.some.inj (hkd.symm.trans h2)
    have hpk := hI.par k kd p hkd hkp
    have hp' : (m.setText k kd s).nodes[p]? = some pd := by rw [setText_get hkd, if_neg (by omega), hpd]
    have hnd := hI.nod p pd hpd
    rw [hks] at hnd
    have hin := exp_inner (f := f) hI hF hpd (ks := ks) (fun d hd => by rw [hks]; exact List.mem_append.2 (.inl hd)) (fun d hd => by
      rw [setText_get hkd, if_neg]
      intro e
      subst e
      exact (List.nodup_append.1 hnd).2.2 d hd d (List.mem_singleton.2 rfl) rfl)
    refine ⟨a ++ [⟨kd.name, kd.attrs, kd.text ++ s, inn⟩], ?_, ?_⟩
    · rw [exp_at hp', hks]
      refine expL_snoc (kd := { kd with text := kd.text ++ s }) (hin.trans h1) (by rw [setText_get hkd, if_pos rfl]) ?_
      rw [hF.exp hI f k hpk (List.getElem?_eq_some_iff.1 hkd).1]
      exact h3
    · rw [toL_snoc, toL_snoc, snocT_text _ _ _ hn]
  · rw [e]
    have hF : Fr m (m.grow p pd ⟨⟨#[]⟩, [], s, none, []⟩ m.elems) p := Fr.grow hpd (fun _ _ h => h)
    refine ⟨hF, (hI.mono (Nat.le_add_right T s.size)).grow hpd rfl (fun _ => hs) (by simp) (by simp) (.inl rfl), by rw [grow_len]; omega, fun f out hf ho => ?_⟩
    obtain ⟨f, rfl⟩ : ∃ g, f = g + 1 + 1 := ⟨f - 2, by omega⟩
    rw [exp_at hpd] at ho
    have hp := (List.getElem?_eq_some_iff.1 hpd).1
    have hin := exp_inner (f := f + 1) hI hF hpd (ks := pd.inner) (fun d hd => hd) (fun d hd => by
      have := hI.chl_lt hpd hd
      exact grow_old this.2 (by omega))
    refine ⟨out ++ [⟨⟨#[]⟩, [], s, []⟩], ?_, ?_⟩
    · rw [exp_at (grow_at hp)]
      exact expL_snoc (hin.trans ho) grow_new (exp_leaf grow_new rfl)
    · rw [toL_snoc, snocT_new _ hs]
      · rfl
      · intro a y hy
        have hl := (expL_get ho).1
        rcases hki : pd.inner.getLast? with _ | k
        · have hnil : pd.inner = [] := by simpa using hki
          rw [hnil] at hl
          have : out = [] := List.eq_nil_of_length_eq_zero hl
          rw [this, toL] at hy
          simp at hy
        · obtain ⟨ks, hks⟩ := List.getLast?_eq_some_iff.1 hki
          rw [hks] at ho
          obtain ⟨b, kd, inn, h1, h2, h3, rfl⟩ := expL_back ho
          rw [toL_snoc] at hy
          obtain ⟨_, e2⟩ := List.append_inj' hy rfl
          obtain rfl := (List.cons.inj e2).1
          exact hlast ks k kd hks h2
mutual
theorem putL_ok : ∀ (l : List S38) (m : M) (T i p : Nat) (pd : Nd), Inv m T → m.elems[i]? = some p → m.nodes[p]? = some pd → wL l ≤ 4000000 →
    Fr m (m.putL i l) p ∧ Inv (m.putL i l) (T + tL l) ∧ (m.putL i l).nodes.length ≤ m.nodes.length + nL l ∧ ∀ f out, dL l < f → m.exp f p = some out → ∃ out', (m.putL i l).exp f p = some out' ∧ toL out' = mgL (toL out) l
  | [], m, T, i, p, pd, hI, hi, hpd, hw => by
    rw [putL_nil]
    exact ⟨Fr.refl _ _, hI.mono (Nat.le_add_right _ _), Nat.le_add_right _ _, fun f out _ ho => ⟨out, ho, by rw [mgL_nil]⟩⟩
  | x :: r, m, T, i, p, pd, hI, hi, hpd, hw => by
    rw [wL] at hw
    obtain ⟨h1, h2, h3, h4⟩ := putN_ok x m T i p pd hI hi hpd (by omega)
    obtain ⟨ns, hpd2⟩ := h1.node pd hpd
    obtain ⟨k1, k2, k3, k4⟩ := putL_ok r (m.putN i x) (T + tN x) i p _ h2 (h1.els i p hi) hpd2 (by omega)
    rw [putL_cons]
    refine ⟨h1.trans k1, by rw [tL, ← Nat.add_assoc]; exact k2, by rw [nL]; omega, fun f out hf ho => ?_⟩
    rw [dL] at hf
    obtain ⟨o1, e1, e2⟩ := h4 f out (by omega) ho
    obtain ⟨o2, e3, e4⟩ := k4 f o1 (by omega) e1
    exact ⟨o2, e3, by rw [e4, e2, mgL_cons]⟩
theorem putN_ok : ∀ (x : S38) (m : M) (T i p : Nat) (pd : Nd), Inv m T → m.elems[i]? = some p → m.nodes[p]? = some pd → wN x ≤ 4000000 →
    Fr m (m.putN i x) p ∧ Inv (m.putN i x) (T + tN x) ∧ (m.putN i x).nodes.length ≤ m.nodes.length + nN x ∧ ∀ f out, dN x < f → m.exp f p = some out → ∃ out', (m.putN i x).exp f p = some out' ∧ toL out' = mgN (toL out) x
  | ⟨n, a, t, inn⟩, m, T, i, p, pd, hI, hi, hpd, hw => by
    rw [wN] at hw
    rw [putN_eq, tN, nN]
    dsimp only
    by_cases hn : n.toList = []
    · rw [if_pos hn]
      obtain ⟨h1, h2, h3, h4⟩ := text_ok m T i p pd hI hi hpd t
      refine ⟨h1, h2.mono (by omega), by omega, fun f out hf ho => ?_⟩
      rw [dN] at hf
      obtain ⟨o, e1, e2⟩ := h4 f out (by omega) ho
      exact ⟨o, e1, by rw [e2, mgN, if_pos hn]⟩
    · rw [if_neg hn, child_eq hi hpd]
      have hp := (List.getElem?_eq_some_iff.1 hpd).1
      have hIg : Inv (m.grow p pd ⟨n, ofA a, ⟨#[]⟩, none, []⟩ (m.elems ++ [m.nodes.length])) T := hI.grow hpd rfl (fun e => absurd e hn) (Nat.zero_le _) (by simp only [ofA, List.length_map]; omega) (.inr rfl)
      have hFg : Fr m (m.grow p pd ⟨n, ofA a, ⟨#[]⟩, none, []⟩ (m.elems ++ [m.nodes.length])) p := Fr.grow hpd fun j q hj => by
        rw [List.getElem?_append_left (List.getElem?_eq_some_iff.1 hj).1, hj]
      have gN : (m.grow p pd ⟨n, ofA a, ⟨#[]⟩, none, []⟩ (m.elems ++ [m.nodes.length])).nodes[m.nodes.length]? = some ⟨n, ofA a, ⟨#[]⟩, some p, []⟩ := grow_new
      have gE : (m.grow p pd ⟨n, ofA a, ⟨#[]⟩, none, []⟩ (m.elems ++ [m.nodes.length])).elems[m.elems.length]? = some m.nodes.length := by
        show (m.elems ++ [m.nodes.length])[m.elems.length]? = _
        rw [List.getElem?_append_right (Nat.le_refl _), Nat.sub_self]
        rfl
      have gP : (m.grow p pd ⟨n, ofA a, ⟨#[]⟩, none, []⟩ (m.elems ++ [m.nodes.length])).nodes[p]? = some { pd with inner := pd.inner ++ [m.nodes.length] } := grow_at hp
      have gO : ∀ d, d < m.nodes.length → d ≠ p → (m.grow p pd ⟨n, ofA a, ⟨#[]⟩, none, []⟩ (m.elems ++ [m.nodes.length])).nodes[d]? = m.nodes[d]? := fun d h1 h2 => grow_old h1 h2
      have gL : (m.grow p pd ⟨n, ofA a, ⟨#[]⟩, none, []⟩ (m.elems ++ [m.nodes.length])).nodes.length = m.nodes.length + 1 := grow_len
      generalize m.grow p pd ⟨n, ofA a, ⟨#[]⟩, none, []⟩ (m.elems ++ [m.nodes.length]) = m1 at hIg hFg gN gE gP gO gL ⊢
      obtain ⟨k1, k2, k3, k4⟩ := putL_ok inn m1 T m.elems.length m.nodes.length _ hIg gE gN (by omega)
      have old : ∀ d, d < m.nodes.length → (m1.putL m.elems.length inn).nodes[d]? = m1.nodes[d]? := fun d hd => by
        obtain ⟨dd, hdd⟩ : ∃ dd, m1.nodes[d]? = some dd := ⟨_, List.getElem?_eq_getElem (by omega)⟩
        obtain ⟨t2, e1, e2⟩ := k1.same d dd hdd (by omega)
        rw [e1, hdd, e2 (fun e => by have := hIg.par d dd _ hdd e; omega)]
      have hF : Fr m (m1.putL m.elems.length inn) p := {
        len := Nat.le_trans hFg.len k1.len
        els := fun j q hj => k1.els j q (hFg.els j q hj)
        node := fun pd' h => by
          obtain rfl := Option.some.inj (hpd.symm.trans h)
          exact ⟨[m.nodes.length], by rw [old p hp, gP]⟩
        same := fun d nd hd hne => ⟨nd.text, by rw [old d (List.getElem?_eq_some_iff.1 hd).1, gO d (List.getElem?_eq_some_iff.1 hd).1 hne, hd], fun _ => rfl⟩
        cop := k1.cop.trans hFg.cop }
      refine ⟨hF, k2.mono (by omega), by omega, fun f out hf ho => ?_⟩
      rw [dN] at hf
      obtain ⟨f, rfl⟩ : ∃ g, f = g + 1 + 1 := ⟨f - 2, by omega⟩
      rw [exp_at hpd] at ho
      have hin := exp_inner (f := f + 1) hI hF hpd (ks := pd.inner) (fun d hd => hd) (fun d hd => by
        have := hI.chl_lt hpd hd
        rw [old d this.2, gO d this.2 (by omega)])
      obtain ⟨inn', e1, e2⟩ := k4 (f + 1) [] (by omega) (exp_leaf gN rfl)
      obtain ⟨ns, e3⟩ := k1.node _ gN
      refine ⟨out ++ [⟨n, ofA a, ⟨#[]⟩, inn'⟩], ?_, ?_⟩
      · rw [exp_at (by rw [old p hp, gP])]
        exact expL_snoc (hin.trans ho) e3 e1
      · rw [toL_snoc, e2, mgN, if_neg hn, toA_ofA, toL]
end
/-! ### what the walks ask -/
theorem zn_getD (xs : List Nat) (j q : Nat) (h : xs[j]? = some q) : (zn xs).getD j 0 = (q : Int) := by
  unfold zn
  rw [List.getD_eq_getElem?_getD, List.getElem?_map, h]
  rfl
theorem idx_of (xs : List Nat) (i p : Nat) (hi : xs[i]? = some p) (hu : ∀ j, xs[j]? = some p → j = i) : Lib.idxOf (zn xs) (p : Int) = (i : Int) := by
  have hl := (List.getElem?_eq_some_iff.1 hi).1
  have h := Lib.idxFrom_hit (p : Int) (zn xs) i 0 (by rw [zn_length]; exact hl) (zn_getD xs i p hi) fun j hj e => by
    obtain ⟨q, hq⟩ : ∃ q, xs[j]? = some q := ⟨_, List.getElem?_eq_getElem (by omega)⟩
    rw [zn_getD xs j q hq] at e
    obtain rfl : q = p := by omega
    have := hu j hq
    omega
  rw [Nat.zero_add] at h
  exact h
end Go.Proofs.Ytcdkcnegejhnhaa.Ar
