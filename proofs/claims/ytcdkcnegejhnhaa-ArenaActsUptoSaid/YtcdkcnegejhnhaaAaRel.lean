/-
  ArenaActs: the arena and the document's arena: what stands where is the same; kept by each act. In plain Lean.
-/
import Derived.Test.YtcdkcnegejhnhaaAaMove
import Derived.Test.YtcdkcnegejhnhaaAaText
import Derived.Test.YtcdkcnegejhnhaaAaArena
namespace Go.Proofs.Ytcdkcnegejhnhaa.Aa
open Go.RowKit Go.Proofs.Ytcdkcnegejhnhaa.PAr Go.Proofs.Ytcdkcnegejhnhaa.Ar Go.Proofs.YtcdkcnegejhnhaaW.PrintWords Go.Proofs.YtcdkcnegejhnhaaW.PrintLast Go.Proofs.YtcdkcnegejhnhaaW.PrintMore
set_option linter.unusedVariables false
set_option linter.unusedSimpArgs false
/-! ### two rows side by side -/
def All2 {α β : Type} (P : α → β → Prop) : List α → List β → Prop
  | [], [] => True
  | a :: xs, b :: bs => P a b ∧ All2 P xs bs
  | _, _ => False
section
variable {α β : Type} {P Q : α → β → Prop}
theorem All2.len : ∀ {xs : List α} {bs : List β}, All2 P xs bs → xs.length = bs.length
  | [], [], _ => rfl
  | _ :: _, _ :: _, h => by rw [List.length_cons, List.length_cons, All2.len h.2]
  | [], _ :: _, h => h.elim
  | _ :: _, [], h => h.elim
theorem All2.imp : ∀ {xs : List α} {bs : List β}, All2 P xs bs → (∀ a b, a ∈ xs → b ∈ bs → P a b → Q a b) → All2 Q xs bs
  | [], [], _, _ => trivial
  | a :: xs, b :: bs, h, hi => ⟨hi a b (List.mem_cons_self ..) (List.mem_cons_self ..) h.1, All2.imp h.2 fun x y hx hy => hi x y (List.mem_cons_of_mem _ hx) (List.mem_cons_of_mem _ hy)⟩
  | [], _ :: _, h, _ => h.elim
  | _ :: _, [], h, _ => h.elim
theorem All2.app : ∀ {xs cs : List α} {bs ds : List β}, All2 P xs bs → All2 P cs ds → All2 P (xs ++ cs) (bs ++ ds)
  | [], _, [], _, _, h2 => h2
  | _ :: _, _, _ :: _, _, h, h2 => ⟨h.1, All2.app h.2 h2⟩
  | [], _, _ :: _, _, h, _ => h.elim
  | _ :: _, _, [], _, h, _ => h.elim
theorem All2.filter {f : α → Bool} {g : β → Bool} : ∀ {xs : List α} {bs : List β}, All2 P xs bs → (∀ a b, a ∈ xs → P a b → f a = g b) → All2 P (xs.filter f) (bs.filter g)
  | [], [], _, _ => trivial
  | a :: xs, b :: bs, h, hp => by
    have ih := All2.filter h.2 fun x y hx => hp x y (List.mem_cons_of_mem _ hx)
    rw [List.filter_cons, List.filter_cons, hp a b (List.mem_cons_self ..) h.1]
    split
    · exact ⟨h.1, ih⟩
    · exact ih
  | [], _ :: _, h, _ => h.elim
  | _ :: _, [], h, _ => h.elim
theorem All2.left {a : α} : ∀ {xs : List α} {bs : List β}, All2 P xs bs → a ∈ xs → ∃ b, b ∈ bs ∧ P a b
  | x :: xs, y :: bs, h, ha => by
    rcases List.mem_cons.1 ha with rfl | ha
    · exact ⟨y, List.mem_cons_self .., h.1⟩
    · obtain ⟨b, h1, h2⟩ := All2.left h.2 ha
      exact ⟨b, List.mem_cons_of_mem _ h1, h2⟩
  | [], [], _, ha => by cases ha
  | [], _ :: _, h, _ => h.elim
  | _ :: _, [], h, _ => h.elim
theorem All2.right {b : β} : ∀ {xs : List α} {bs : List β}, All2 P xs bs → b ∈ bs → ∃ a, a ∈ xs ∧ P a b
  | x :: xs, y :: bs, h, hb => by
    rcases List.mem_cons.1 hb with rfl | hb
    · exact ⟨x, List.mem_cons_self .., h.1⟩
    · obtain ⟨a, h1, h2⟩ := All2.right h.2 hb
      exact ⟨a, List.mem_cons_of_mem _ h1, h2⟩
  | [], [], _, ha => by cases ha
  | [], _ :: _, h, _ => h.elim
  | _ :: _, [], h, _ => h.elim
theorem All2.last : ∀ {xs : List α} {a : α} {bs : List β}, All2 P (xs ++ [a]) bs → ∃ bs' b, bs = bs' ++ [b] ∧ All2 P xs bs' ∧ P a b
  | [], a, [b], h => ⟨[], b, rfl, trivial, h.1⟩
  | [], a, [], h => h.elim
  | [], a, _ :: _ :: _, h => h.2.elim
  | x :: xs, a, [], h => h.elim
  | x :: xs, a, y :: bs, h => by
    obtain ⟨bs', b, rfl, h1, h2⟩ := All2.last (xs := xs) h.2
    exact ⟨y :: bs', b, rfl, ⟨h.1, h1⟩, h2⟩
end
theorem nodup_len : ∀ (n : Nat) (l : List Nat), l.Nodup → (∀ x ∈ l, x < n) → l.length ≤ n
  | 0, l, _, h => by
    cases l with
    | nil => exact Nat.le_refl _
    | cons a l => have := h a (List.mem_cons_self ..); omega
  | n + 1, l, hn, h => by
    have h1 := nodup_len n (l.erase n) (hn.erase n) fun x hx => by
      have h2 := (List.Nodup.mem_erase_iff hn).1 hx
      have := h x h2.2
      have := h2.1
      omega
    have := List.length_erase (a := n) (l := l)
    split at this <;> omega
/-! ### what a put makes of each node -/
theorem leave_get {m : M} {k : Nat} {kd : Nd} (hk : m.nodes[k]? = some kd) (d : Nat) :
    (m.leave k).nodes[d]? = (m.nodes[d]?).map fun nd => { nd with inner := if kd.parent = some d then nd.inner.filter (· != k) else nd.inner } := by
  unfold M.leave
  simp only [hk]
  cases hp : kd.parent with
  | none =>
    show m.nodes[d]? = _
    cases m.nodes[d]? with
    | none => rfl
    | some nd => simp
  | some p =>
    dsimp only
    cases hnp : m.nodes[p]? with
    | none =>
      dsimp only
      cases hd : m.nodes[d]? with
      | none => rfl
      | some nd =>
        have hne : p ≠ d := fun e => by rw [e, hd] at hnp; cases hnp
        simp [hne]
    | some np =>
      dsimp only
      by_cases e : p = d
      · subst e
        rw [List.getElem?_set_self (List.getElem?_eq_some_iff.1 hnp).1, hnp]
        simp
      · rw [List.getElem?_set_ne e]
        cases hd : m.nodes[d]? with
        | none => rfl
        | some nd => simp [e]
theorem setPar_get {m : M} {k q : Nat} (hk : k < m.nodes.length) (d : Nat) : (m.setPar k q).nodes[d]? = (m.nodes[d]?).map fun nd => { nd with parent := if d = k then some q else nd.parent } := by
  obtain ⟨kd, hkd⟩ : ∃ kd, m.nodes[k]? = some kd := ⟨_, List.getElem?_eq_getElem hk⟩
  unfold M.setPar
  simp only [hkd]
  by_cases e : k = d
  · subst e
    rw [List.getElem?_set_self hk, hkd]
    simp
  · rw [List.getElem?_set_ne e]
    cases hd : m.nodes[d]? with
    | none => rfl
    | some nd =>
      have e2 : ¬ d = k := fun h => e h.symm
      simp [e2]
theorem addInner_get {m : M} {k q : Nat} (hq : q < m.nodes.length) (d : Nat) : (m.addInner q k).nodes[d]? = (m.nodes[d]?).map fun nd => { nd with inner := nd.inner ++ if d = q then [k] else [] } := by
  obtain ⟨kd, hkd⟩ : ∃ kd, m.nodes[q]? = some kd := ⟨_, List.getElem?_eq_getElem hq⟩
  unfold M.addInner
  simp only [hkd]
  by_cases e : q = d
  · subst e
    rw [List.getElem?_set_self hq, hkd]
    simp
  · rw [List.getElem?_set_ne e]
    cases hd : m.nodes[d]? with
    | none => rfl
    | some nd =>
      have e2 : ¬ d = q := fun h => e h.symm
      simp [e2]
theorem put_get {m : M} {k q : Nat} {kd : Nd} (hk : m.nodes[k]? = some kd) (hq : q < m.nodes.length) (d : Nat) :
    (m.put q k).nodes[d]? = (m.nodes[d]?).map fun nd => { nd with parent := if d = k then some q else nd.parent, inner := (if kd.parent = some d then nd.inner.filter (· != k) else nd.inner) ++ if d = q then [k] else [] } := by
  have l1 : (m.leave k).nodes.length = m.nodes.length := (leave_len m k).1
  have l2 : ((m.leave k).setPar k q).nodes.length = m.nodes.length := by
    unfold M.setPar
    split
    · exact l1
    · rw [List.length_set]; exact l1
  have hkl := (List.getElem?_eq_some_iff.1 hk).1
  unfold M.put
  rw [addInner_get (by rw [l2]; exact hq), setPar_get (by rw [l1]; exact hkl), leave_get hk, Option.map_map, Option.map_map]
  rfl
theorem put_at {m : M} {k q : Nat} {kd : Nd} (hk : m.nodes[k]? = some kd) (hq : q < m.nodes.length) {d : Nat} {nd : Nd} (hd : m.nodes[d]? = some nd) :
    (m.put q k).nodes[d]? = some { nd with parent := if d = k then some q else nd.parent, inner := (if kd.parent = some d then nd.inner.filter (· != k) else nd.inner) ++ if d = q then [k] else [] } := by
  rw [put_get hk hq, hd]
  rfl
/-! ### in what a node stands, and in what that stands -/
/-- Does i stand in j, or in one that does, or is it that? -/
def und (par : List Int) (j : Nat) : Nat → Nat → Bool
  | 0, i => decide (i = j)
  | f + 1, i => if i = j then true else match par[i]? with
    | some x => if 0 ≤ x then und par j f x.toNat else false
    | none => false
section
variable {par : List Int} {j : Nat} {d : Nat → Nat}
theorem und_self (f : Nat) : und par j f j = true := by
  cases f with
  | zero => exact decide_eq_true rfl
  | succ f => rw [und, if_pos rfl]
theorem und_more (hd : ∀ i k : Nat, par[i]? = some (k : Int) → d k < d i) : ∀ f i : Nat, d i ≤ f → und par j (f + 1) i = und par j f i
  | 0, i, h => by
    rw [und, und]
    by_cases e : i = j
    · rw [if_pos e, decide_eq_true e]
    · rw [if_neg e, decide_eq_false e]
      split
      · rename_i x hx
        split
        · rename_i h0
          obtain ⟨k, rfl⟩ : ∃ k : Nat, x = (k : Int) := ⟨x.toNat, by omega⟩
          have := hd i k hx
          omega
        · rfl
      · rfl
  | f + 1, i, h => by
    rw [und]
    conv => rhs; rw [und]
    by_cases e : i = j
    · rw [if_pos e, if_pos e]
    · rw [if_neg e, if_neg e]
      split
      · rename_i x hx
        split
        · rename_i h0
          obtain ⟨k, rfl⟩ : ∃ k : Nat, x = (k : Int) := ⟨x.toNat, by omega⟩
          have := hd i k hx
          rw [Int.toNat_natCast]
          exact und_more hd f k (by omega)
        · rfl
      · rfl
theorem und_any (hd : ∀ i k : Nat, par[i]? = some (k : Int) → d k < d i) (i : Nat) : ∀ n : Nat, und par j (d i + n) i = und par j (d i) i
  | 0 => rfl
  | n + 1 => by rw [← und_any hd i n]; exact und_more hd (d i + n) i (by omega)
theorem und_step (hd : ∀ i k : Nat, par[i]? = some (k : Int) → d k < d i) {i k : Nat} (h : par[i]? = some (k : Int)) (hi : i ≠ j) : und par j (d i) i = und par j (d k) k := by
  have h1 := hd i k h
  obtain ⟨n, hn⟩ : ∃ n, d i = (d k + n) + 1 := ⟨d i - d k - 1, by omega⟩
  rw [hn, und, if_neg hi, h]
  show (if 0 ≤ (k : Int) then und par j (d k + n) (k : Int).toNat else false) = _
  rw [if_pos (by omega), Int.toNat_natCast, und_any hd]
theorem und_child (hd : ∀ i k : Nat, par[i]? = some (k : Int) → d k < d i) {i : Nat} (h : par[i]? = some (j : Int)) : und par j (d i) i = true := by
  by_cases e : i = j
  · subst e; exact und_self _
  · rw [und_step hd h e]; exact und_self _
end
/-- How deep all lies when j is put into k. -/
def lift (par : List Int) (j k : Nat) (d : Nat → Nat) : Nat → Nat := fun y => if und par j (d y) y = true then d y + d k + 1 else d y
theorem lift_old {par : List Int} {j k : Nat} {d : Nat → Nat} (hd : ∀ i k : Nat, par[i]? = some (k : Int) → d k < d i) {x y : Nat} (h : par[x]? = some (y : Int)) : lift par j k d y < lift par j k d x := by
  have h1 := hd x y h
  unfold lift
  by_cases e : x = j
  · subst e
    rw [if_pos (und_self _)]
    split <;> omega
  · rw [und_step hd h e]
    split <;> omega
theorem lift_new {par : List Int} {j k : Nat} {d : Nat → Nat} {x : Nat} (hx : und par j (d x) x = true) (hk : und par j (d k) k = false) : lift par j k d k < lift par j k d x := by
  unfold lift
  rw [if_pos hx, hk]
  simp
  omega
theorem under_eq {names : List ByteArray} {attrs : List (List S106)} {inner : List (List S115)} {par : List Int} {d : Nat → Nat} (cp : Int) (hd : ∀ i k : Nat, par[i]? = some (k : Int) → d k < d i) (hp : ∀ x ∈ par, x < (par.length : Int)) (j : Nat) :
    ∀ (n i K : Nat), d i ≤ n → n + 2 ≤ K → i < par.length → decanterlaw12_under.f K names attrs inner par cp (i : Int) (j : Int) = some (und par j (d i) i)
  | n, i, 0, _, hK, _ => by omega
  | n, i, K + 1, hn, hK, hi => by
    obtain ⟨x, hx⟩ : ∃ x, par[i]? = some x := ⟨_, List.getElem?_eq_getElem hi⟩
    have hrd : rd par (i : Int) = x := by unfold rd; rw [Int.toNat_natCast, List.getD_eq_getElem?_getD, hx, Option.getD_some]
    unfold decanterlaw12_under.f
    rw [decanterlaw12_under.l0, if_pos (by omega)]
    by_cases e : i = j
    · rw [if_pos (by omega), e, und_self]
    · rw [if_neg (by omega), if_pos (by omega), if_pos (by omega), hrd]
      by_cases h0 : 0 ≤ x
      · obtain ⟨k, rfl⟩ : ∃ k : Nat, x = (k : Int) := ⟨x.toNat, by omega⟩
        have h1 := hd i k hx
        have h2 := hp _ (List.mem_of_getElem? hx)
        rw [und_step hd hx e]
        exact under_eq cp hd hp j (n - 1) k K (by omega) (by omega) (by omega)
      · have hu : und par j (d i) i = false := by
          cases hf : d i with
          | zero => rw [und, decide_eq_false e]
          | succ f =>
            rw [und, if_neg e, hx]
            show (if 0 ≤ x then _ else _) = _
            rw [if_neg h0]
        obtain ⟨K, rfl⟩ : ∃ K', K = K' + 1 := ⟨K - 1, by omega⟩
        rw [hu, decanterlaw12_under.l0, if_neg (by omega)]
/-! ### the relation -/
/-- A node that stands in another one, and its item. -/
def Item (m : M) (p c : Nat) (y : S115) : Prop := ∃ cd, m.nodes[c]? = some cd ∧ cd.parent = some p ∧
  ((y.f1 = 0 ∧ cd.name.toList = [] ∧ cd.text = y.f0 ∧ y.f0.toList ≠ [] ∧ cd.attrs = [] ∧ cd.inner = [] ∧ ∀ e : Nat, m.elems[e]? ≠ some c) ∨ ∃ e : Nat, 0 < e ∧ y.f1 = (e : Int) ∧ m.elems[e]? = some c)
/-- Where an element stands. -/
def Stands (m : M) (o : Option Nat) (x : Int) : Prop := (o = none ∧ x = -1) ∨ ∃ (j p : Nat), x = (j : Int) ∧ m.elems[j]? = some p ∧ o = some p
structure ElR (m : M) (i p : Nat) (nd : Nd) (nm : ByteArray) (a : List S106) (l : List S115) (x : Int) : Prop where
  name : nd.name = nm
  att : nd.attrs = ofA a
  text : nd.text = ⟨#[]⟩
  named : 0 < i → nm.toList ≠ []
  par : Stands m nd.parent x
  nod : nd.inner.Nodup
  inn : All2 (Item m p) nd.inner l
/-- The arena and the document's; t: how many acts at most. -/
structure Rel (m : M) (R : Rm) (d : Nat → Nat) (t : Nat) : Prop where
  nn : R.names.length = m.elems.length
  na : R.attrs.length = m.elems.length
  ni : R.inner.length = m.elems.length
  np : R.par.length = m.elems.length
  cp : R.copies = (m.copies : Int)
  cle : m.copies ≤ t
  elen : m.elems.length ≤ t + 1
  nlen : m.nodes.length ≤ t + 1
  root : m.elems[0]? = some 0
  els : ∀ i p : Nat, m.elems[i]? = some p → p < m.nodes.length
  uni : ∀ i j p : Nat, m.elems[i]? = some p → m.elems[j]? = some p → i = j
  all : ∀ (k : Nat) (nd : Nd), m.nodes[k]? = some nd → (∀ p, nd.parent = some p → p < m.nodes.length) ∧ nd.text.size ≤ t * 2000000 ∧ nd.attrs.length ≤ 10 ∧ (nd.inner = [] ∨ ∃ e : Nat, m.elems[e]? = some k)
  el : ∀ (i p : Nat) (nd : Nd) (nm : ByteArray) (a : List S106) (l : List S115) (x : Int), m.elems[i]? = some p → m.nodes[p]? = some nd → R.names[i]? = some nm → R.attrs[i]? = some a → R.inner[i]? = some l → R.par[i]? = some x → ElR m i p nd nm a l x
  acy : ∀ i k : Nat, R.par[i]? = some (k : Int) → d k < d i
section
variable {m : M} {R : Rm} {d : Nat → Nat} {t : Nat}
theorem Item.step {m m' : M} {p p' c : Nat} {y : S115} (h : Item m p c y) (he : ∀ e q : Nat, m.elems[e]? = some q → m'.elems[e]? = some q) (he' : ∀ e : Nat, m'.elems[e]? = some c → m.elems[e]? = some c)
    (hn : ∀ cd, m.nodes[c]? = some cd → cd.parent = some p → ∃ cd', m'.nodes[c]? = some cd' ∧ cd'.name = cd.name ∧ cd'.attrs = cd.attrs ∧ cd'.text = cd.text ∧ cd'.parent = some p' ∧ (cd.inner = [] → (∀ e : Nat, m.elems[e]? ≠ some c) → cd'.inner = [])) : Item m' p' c y := by
  obtain ⟨cd, h1, h2, h3⟩ := h
  obtain ⟨cd', g1, g2, g3, g4, g5, g6⟩ := hn cd h1 h2
  refine ⟨cd', g1, g5, ?_⟩
  rcases h3 with ⟨a1, a2, a3, a4, a5, a6, a7⟩ | ⟨e, a1, a2, a3⟩
  · exact .inl ⟨a1, by rw [g2, a2], by rw [g4, a3], a4, by rw [g3, a5], g6 a6 a7, fun e he2 => a7 e (he' e he2)⟩
  · exact .inr ⟨e, a1, a2, he e c a3⟩
theorem Item.cong {m m' : M} {p c : Nat} {y : S115} (h : Item m p c y) (he : m'.elems = m.elems) (hn : m'.nodes[c]? = m.nodes[c]?) : Item m' p c y := by
  unfold Item at h ⊢
  rw [he, hn]
  exact h
theorem Stands.mono {m m' : M} {o : Option Nat} {x : Int} (h : Stands m o x) (he : ∀ e q : Nat, m.elems[e]? = some q → m'.elems[e]? = some q) : Stands m' o x := by
  rcases h with h | ⟨j, p, h1, h2, h3⟩
  · exact .inl h
  · exact .inr ⟨j, p, h1, he j p h2, h3⟩
/-- All of an element. -/
theorem Rel.at (h : Rel m R d t) {i : Nat} (hi : i < m.elems.length) : ∃ p nd nm a l x, m.elems[i]? = some p ∧ m.nodes[p]? = some nd ∧ R.names[i]? = some nm ∧ R.attrs[i]? = some a ∧ R.inner[i]? = some l ∧ R.par[i]? = some x ∧ ElR m i p nd nm a l x := by
  obtain ⟨p, hp⟩ : ∃ p, m.elems[i]? = some p := ⟨_, List.getElem?_eq_getElem hi⟩
  obtain ⟨nd, hnd⟩ : ∃ nd, m.nodes[p]? = some nd := ⟨_, List.getElem?_eq_getElem (h.els i p hp)⟩
  obtain ⟨nm, h1⟩ : ∃ nm, R.names[i]? = some nm := ⟨_, List.getElem?_eq_getElem (by rw [h.nn]; exact hi)⟩
  obtain ⟨a, h2⟩ : ∃ nm, R.attrs[i]? = some nm := ⟨_, List.getElem?_eq_getElem (by rw [h.na]; exact hi)⟩
  obtain ⟨l, h3⟩ : ∃ nm, R.inner[i]? = some nm := ⟨_, List.getElem?_eq_getElem (by rw [h.ni]; exact hi)⟩
  obtain ⟨x, h4⟩ : ∃ nm, R.par[i]? = some nm := ⟨_, List.getElem?_eq_getElem (by rw [h.np]; exact hi)⟩
  exact ⟨p, nd, nm, a, l, x, hp, hnd, h1, h2, h3, h4, h.el i p nd nm a l x hp hnd h1 h2 h3 h4⟩
theorem Rel.par_lt (h : Rel m R d t) : ∀ x ∈ R.par, x < (m.elems.length : Int) := fun x hx => by
  obtain ⟨i, hi⟩ := List.getElem?_of_mem hx
  have hil := (List.getElem?_eq_some_iff.1 hi).1
  rw [h.np] at hil
  obtain ⟨p, nd, nm, a, l, x', _, _, _, _, _, h4, hE⟩ := h.at hil
  obtain rfl := Option.some.inj (hi.symm.trans h4)
  rcases hE.par with ⟨_, rfl⟩ | ⟨j, p', rfl, hj, _⟩
  · have := (List.getElem?_eq_some_iff.1 h.root).1
    omega
  · have := (List.getElem?_eq_some_iff.1 hj).1
    omega
theorem Rel.inn_lt (h : Rel m R d t) {i : Nat} {nd : Nd} {p : Nat} (hi : m.elems[i]? = some p) (hnd : m.nodes[p]? = some nd) : (∀ c ∈ nd.inner, c < m.nodes.length) ∧ nd.inner.length ≤ m.nodes.length := by
  obtain ⟨p', nd', nm, a, l, x, h0, h1, _, _, _, _, hE⟩ := h.at (List.getElem?_eq_some_iff.1 hi).1
  obtain rfl := Option.some.inj (hi.symm.trans h0)
  obtain rfl := Option.some.inj (hnd.symm.trans h1)
  have hl : ∀ c ∈ nd.inner, c < m.nodes.length := fun c hc => by
    obtain ⟨y, _, cd, h2, _⟩ := hE.inn.left hc
    exact (List.getElem?_eq_some_iff.1 h2).1
  exact ⟨hl, nodup_len _ _ hE.nod hl⟩
theorem Rel.wf (h : Rel m R d t) : WF m (t + 1) (t * 2000000) where
  els := h.els
  par := fun i nd hi p hp => (h.all i nd hi).1 p hp
  inn := fun i nd hi => by
    obtain ⟨_, h2, _, h4⟩ := h.all i nd hi
    rcases h4 with h4 | ⟨e, he⟩
    · rw [h4]
      exact ⟨fun k hk => (by cases hk), Nat.zero_le _, h2⟩
    · have h3 := h.inn_lt he hi
      exact ⟨h3.1, Nat.le_trans h3.2 h.nlen, h2⟩
  nlen := h.nlen
  elen := h.elen
theorem Rel.sm (h : Rel m R d t) (ht : t ≤ 900000) : Sm m where
  att := fun i nd hi => by
    have h1 := (h.all i nd hi).2.2.1
    have h2 := (h.wf.inn i nd hi).2.1
    exact ⟨by omega, by omega⟩
  len := by have := h.nlen; omega
/-- What the walks of the document's functions ask. -/
theorem Rel.rows (h : Rel m R d t) (ht : t ≤ 900) : (R.names.length ≤ 1000 ∧ R.attrs.length ≤ 1000 ∧ R.inner.length ≤ 1000 ∧ R.par.length ≤ 1000) ∧ (∀ l ∈ R.inner, l.length ≤ 100000) ∧ (∀ l ∈ R.inner, ∀ y ∈ l, y.f1 < R.par.length ∧ 0 ≤ y.f1) ∧
    (∀ l ∈ R.inner, ∀ y ∈ l, y.f1 = 0 → y.f0.size ≤ 2000000000) := by
  have he := h.elen
  have get : ∀ l ∈ R.inner, ∃ i p nd, m.elems[i]? = some p ∧ m.nodes[p]? = some nd ∧ All2 (Item m p) nd.inner l := fun l hl => by
    obtain ⟨i, hi⟩ := List.getElem?_of_mem hl
    have hil := (List.getElem?_eq_some_iff.1 hi).1
    rw [h.ni] at hil
    obtain ⟨p, nd, nm, a, l', x, h0, h1, _, _, h3, _, hE⟩ := h.at hil
    obtain rfl := Option.some.inj (hi.symm.trans h3)
    exact ⟨i, p, nd, h0, h1, hE.inn⟩
  refine ⟨by have := h.nn; have := h.na; have := h.ni; have := h.np; omega, fun l hl => ?_, fun l hl y hy => ?_, fun l hl y hy h0 => ?_⟩
  · obtain ⟨i, p, nd, h1, h2, h3⟩ := get l hl
    have := (h.inn_lt h1 h2).2
    have := h3.len
    have := h.nlen
    omega
  · obtain ⟨i, p, nd, h1, h2, h3⟩ := get l hl
    obtain ⟨c, _, cd, _, _, h4⟩ := h3.right hy
    rw [h.np]
    rcases h4 with ⟨h4, _⟩ | ⟨e, _, h4, h5⟩
    · have := (List.getElem?_eq_some_iff.1 h.root).1
      omega
    · have := (List.getElem?_eq_some_iff.1 h5).1
      omega
  · obtain ⟨i, p, nd, h1, h2, h3⟩ := get l hl
    obtain ⟨c, _, cd, h6, _, h4⟩ := h3.right hy
    rcases h4 with ⟨_, _, h4, _⟩ | ⟨e, _, h4, h5⟩
    · have := (h.all c cd h6).2.1
      rw [h4] at this
      omega
    · omega
end
section
variable {m : M} {R : Rm} {d : Nat → Nat} {t : Nat}
theorem Rel.mono (h : Rel m R d t) {t' : Nat} (ht : t ≤ t') : Rel m R d t' := { h with
  cle := Nat.le_trans h.cle ht
  elen := by have := h.elen; omega
  nlen := by have := h.nlen; omega
  all := fun k nd hk => by
    obtain ⟨h1, h2, h3⟩ := h.all k nd hk
    exact ⟨h1, Nat.le_trans h2 (Nat.mul_le_mul_right _ ht), h3⟩ }
theorem Rel.copied (h : Rel m R d t) (hc : m.copies + 1 ≤ t) : Rel { m with copies := m.copies + 1 } { R with copies := R.copies + 1 } d t where
  nn := h.nn
  na := h.na
  ni := h.ni
  np := h.np
  cp := by
    show R.copies + 1 = ((m.copies + 1 : Nat) : Int)
    rw [h.cp]
    rfl
  cle := hc
  elen := h.elen
  nlen := h.nlen
  root := h.root
  els := h.els
  uni := h.uni
  all := h.all
  el := fun i p nd nm a l x h0 h1 h2 h3 h4 h5 => by
    have hE := h.el i p nd nm a l x h0 h1 h2 h3 h4 h5
    exact ⟨hE.name, hE.att, hE.text, hE.named, hE.par, hE.nod, hE.inn⟩
  acy := h.acy
theorem snoc_get {α : Type} {l : List α} {x y : α} {i : Nat} (h : (l ++ [x])[i]? = some y) : l[i]? = some y ∨ (i = l.length ∧ y = x) := by
  by_cases hl : i < l.length
  · rw [List.getElem?_append_left hl] at h
    exact .inl h
  · have hi := (List.getElem?_eq_some_iff.1 h).1
    rw [List.length_append, List.length_singleton] at hi
    have e : i = l.length := by omega
    subst e
    rw [List.getElem?_append_right (Nat.le_refl _), Nat.sub_self] at h
    exact .inr ⟨rfl, (Option.some.inj h).symm⟩
theorem snoc_old {α : Type} {l : List α} {x y : α} {i : Nat} (h : l[i]? = some y) : (l ++ [x])[i]? = some y := by
  rw [List.getElem?_append_left (List.getElem?_eq_some_iff.1 h).1, h]
theorem snoc_new {α : Type} (l : List α) (x : α) : (l ++ [x])[l.length]? = some x := by
  rw [List.getElem?_append_right (Nat.le_refl _), Nat.sub_self]
  rfl
theorem snoc_len {α : Type} (l : List α) (x : α) : (l ++ [x]).length = l.length + 1 := by rw [List.length_append, List.length_singleton]
theorem Rel.element (h : Rel m R d t) (name : ByteArray) (a : List S106) (ha : a.length ≤ 10) (hn : name.toList ≠ []) : Rel (m.element name (ofA a)) (R.element name a) d (t + 1) where
  nn := by show (R.names ++ [name]).length = (m.elems ++ [_]).length; rw [snoc_len, snoc_len, h.nn]
  na := by show (R.attrs ++ [a]).length = (m.elems ++ [_]).length; rw [snoc_len, snoc_len, h.na]
  ni := by show (R.inner ++ [[]]).length = (m.elems ++ [_]).length; rw [snoc_len, snoc_len, h.ni]
  np := by show (R.par ++ [-1]).length = (m.elems ++ [_]).length; rw [snoc_len, snoc_len, h.np]
  cp := h.cp
  cle := Nat.le_succ_of_le h.cle
  elen := by show (m.elems ++ [_]).length ≤ _; rw [snoc_len]; have := h.elen; omega
  nlen := by show (m.nodes ++ [_]).length ≤ _; rw [snoc_len]; have := h.nlen; omega
  root := snoc_old h.root
  els := fun i p hi => by
    show p < (m.nodes ++ [_]).length
    rw [snoc_len]
    rcases snoc_get hi with hi | ⟨_, rfl⟩
    · have := h.els i p hi; omega
    · omega
  uni := fun i j p hi hj => by
    rcases snoc_get hi with hi | ⟨rfl, rfl⟩
    · rcases snoc_get hj with hj | ⟨rfl, rfl⟩
      · exact h.uni i j p hi hj
      · have := h.els i _ hi; omega
    · rcases snoc_get hj with hj | ⟨rfl, _⟩
      · have := h.els j _ hj; omega
      · rfl
  all := fun k nd hk => by
    have hl : (m.element name (ofA a)).nodes.length = m.nodes.length + 1 := snoc_len _ _
    rw [hl]
    rcases snoc_get hk with hk | ⟨rfl, rfl⟩
    · obtain ⟨h1, h2, h3, h4⟩ := h.all k nd hk
      exact ⟨fun p hp => by have := h1 p hp; omega, Nat.le_trans h2 (Nat.mul_le_mul_right _ (Nat.le_succ _)), h3, h4.elim .inl fun ⟨e, he⟩ => .inr ⟨e, snoc_old he⟩⟩
    · exact ⟨fun p hp => (by cases hp), Nat.zero_le _, by simpa [ofA] using ha, .inl rfl⟩
  el := fun i p nd nm a' l x h0 h1 h2 h3 h4 h5 => by
    have old : ∀ {p c : Nat} {y : S115}, Item m p c y → Item (m.element name (ofA a)) p c y := fun {p c y} hI => by
      obtain ⟨cd, hcd, hrest⟩ := hI
      have hcl := (List.getElem?_eq_some_iff.1 hcd).1
      refine Item.step ⟨cd, hcd, hrest⟩ (fun e q he => snoc_old he) (fun e he => ?_) fun cd' h1 h2 => ⟨cd', snoc_old h1, rfl, rfl, rfl, h2, fun e _ => e⟩
      rcases snoc_get he with he | ⟨_, he⟩
      · exact he
      · omega
    rcases snoc_get h0 with h0 | ⟨rfl, rfl⟩
    · have hil := (List.getElem?_eq_some_iff.1 h0).1
      have hpl := h.els i p h0
      rcases snoc_get h1 with h1 | ⟨e, _⟩
      · have g2 : R.names[i]? = some nm := (snoc_get h2).elim id fun e => by have := h.nn; omega
        have g3 : R.attrs[i]? = some a' := (snoc_get h3).elim id fun e => by have := h.na; omega
        have g4 : R.inner[i]? = some l := (snoc_get h4).elim id fun e => by have := h.ni; omega
        have g5 : R.par[i]? = some x := (snoc_get h5).elim id fun e => by have := h.np; omega
        have hE := h.el i p nd nm a' l x h0 h1 g2 g3 g4 g5
        exact ⟨hE.name, hE.att, hE.text, hE.named, hE.par.mono fun e q he => snoc_old he, hE.nod, hE.inn.imp fun c y _ _ hI => old hI⟩
      · omega
    · have k1 : nd = ⟨name, ofA a, ⟨#[]⟩, none, []⟩ := Option.some.inj (h1.symm.trans (snoc_new m.nodes _))
      have k2 : nm = name := Option.some.inj (h2.symm.trans (h.nn ▸ snoc_new R.names _))
      have k3 : a' = a := Option.some.inj (h3.symm.trans (h.na ▸ snoc_new R.attrs _))
      have k4 : l = [] := Option.some.inj (h4.symm.trans (h.ni ▸ snoc_new R.inner _))
      have k5 : x = -1 := Option.some.inj (h5.symm.trans (h.np ▸ snoc_new R.par _))
      subst k1 k2 k3 k4 k5
      exact ⟨rfl, rfl, rfl, fun _ => hn, .inl ⟨rfl, rfl⟩, List.nodup_nil, by show All2 _ ([] : List Nat) ([] : List S115); unfold All2; trivial⟩
  acy := fun i k hi => by
    rcases snoc_get hi with hi | ⟨_, hi⟩
    · exact h.acy i k hi
    · omega
/-! ### Append -/
theorem Stands.iff (h : Rel m R d t) {o : Option Nat} {x : Int} (hs : Stands m o x) {j p : Nat} (hj : m.elems[j]? = some p) : o = some p ↔ x = (j : Int) := by
  rcases hs with ⟨rfl, rfl⟩ | ⟨k, q, rfl, hk, rfl⟩
  · constructor
    · intro e; cases e
    · intro e; omega
  · constructor
    · intro e
      obtain rfl := Option.some.inj e
      rw [h.uni k j q hk hj]
    · intro e
      obtain rfl : k = j := by omega
      exact hk.symm.trans hj
theorem Item.iff (h : Rel m R d t) {i c p c' : Nat} {y : S115} (hi0 : 0 < i) (hi : m.elems[i]? = some c) (hI : Item m p c' y) : (c' != c) = (y.f1 != (i : Int)) := by
  obtain ⟨cd, _, _, hI⟩ := hI
  rcases hI with ⟨h1, _, _, _, _, _, h2⟩ | ⟨e, h1, h2, h3⟩
  · have e1 : c' ≠ c := fun e => h2 i (e ▸ hi)
    have e2 : y.f1 ≠ (i : Int) := by omega
    rw [bne_iff_ne.2 e1, bne_iff_ne.2 e2]
  · by_cases e1 : c' = c
    · subst e1
      have := h.uni e i c' h3 hi
      subst this
      rw [h2]
      simp
    · have e2 : y.f1 ≠ (i : Int) := fun e' => e1 (by
        rw [h2] at e'
        obtain rfl : e = i := by omega
        exact Option.some.inj (h3.symm.trans hi))
      rw [bne_iff_ne.2 e1, bne_iff_ne.2 e2]
theorem rleave_get (R : Rm) (i j : Nat) : (R.leave i)[j]? = (R.inner[j]?).map fun l => if R.par[i]? = some (j : Int) then l.filter (fun y => y.f1 != (i : Int)) else l := by
  unfold Rm.leave
  cases hx : R.par[i]? with
  | none => cases R.inner[j]? <;> simp
  | some x =>
    dsimp only
    by_cases h0 : 0 ≤ x
    · rw [if_pos h0]
      obtain ⟨k, rfl⟩ : ∃ k : Nat, x = (k : Int) := ⟨x.toNat, by omega⟩
      rw [Int.toNat_natCast]
      by_cases e : k = j
      · subst e
        cases hl : R.inner[k]? with
        | none => rw [List.getElem?_eq_none (by rw [List.length_set]; exact List.getElem?_eq_none_iff.1 hl)]; rfl
        | some l => rw [List.getElem?_set_self (List.getElem?_eq_some_iff.1 hl).1, List.getD_eq_getElem?_getD, hl]; simp
      · rw [List.getElem?_set_ne e]
        have : (some (k : Int) = some (j : Int)) = False := by simp; omega
        cases R.inner[j]? <;> simp [this]
    · rw [if_neg h0]
      have : (some x = some (j : Int)) = False := by simp; omega
      cases R.inner[j]? <;> simp [this]
theorem rappend_get (R : Rm) (k i j : Nat) (hk : k < R.inner.length) : (R.append k i).inner[j]? = (R.inner[j]?).map fun l => (if R.par[i]? = some (j : Int) then l.filter (fun y => y.f1 != (i : Int)) else l) ++ if j = k then [⟨⟨#[]⟩, (i : Int)⟩] else [] := by
  show ((R.leave i).set k _)[j]? = _
  by_cases e : k = j
  · subst e
    rw [List.getElem?_set_self (by rw [Rm.leave_length]; exact hk), List.getD_eq_getElem?_getD, rleave_get]
    cases hl : R.inner[k]? with
    | none => exact absurd (List.getElem?_eq_none_iff.1 hl) (by omega)
    | some l => simp
  · rw [List.getElem?_set_ne e, rleave_get]
    cases R.inner[j]? with
    | none => rfl
    | some l =>
      have e2 : ¬ j = k := fun h => e h.symm
      simp [e2]
/-- What all nodes are, where only parents and inner rows of elements change. -/
theorem Rel.put_all {k c q : Nat} {kd : Nd} (h : Rel m R d t) (hc : m.nodes[c]? = some kd) (hk : m.elems[k]? = some q) (b : Nat) (nd' : Nd) (hb : (m.put q c).nodes[b]? = some nd') :
    (∀ p, nd'.parent = some p → p < m.nodes.length) ∧ nd'.text.size ≤ t * 2000000 ∧ nd'.attrs.length ≤ 10 ∧ (nd'.inner = [] ∨ ∃ e : Nat, m.elems[e]? = some b) := by
  rw [put_get hc (h.els k q hk)] at hb
  obtain ⟨nd, hnd, rfl⟩ := Option.map_eq_some_iff.1 hb
  obtain ⟨h1, h2, h3, h4⟩ := h.all b nd hnd
  refine ⟨fun p hp => ?_, h2, h3, ?_⟩
  · dsimp only at hp
    split at hp
    · have := Option.some.inj hp
      have := h.els k q hk
      omega
    · exact h1 p hp
  · by_cases e : b = q
    · subst e
      exact .inr ⟨k, hk⟩
    · rcases h4 with h4 | h4
      · left
        dsimp only
        rw [h4, if_neg e]
        split <;> rfl
      · exact .inr h4
theorem Rel.append {i k c q : Nat} (h : Rel m R d t) (hi0 : 0 < i) (hi : m.elems[i]? = some c) (hk : m.elems[k]? = some q) (hu : und R.par i (d k) k = false) : Rel (m.put q c) (R.append k i) (lift R.par i k d) t := by
  obtain ⟨c', kd, nmi, ai, li, xi, h0, hkd, _, _, _, hxi, hEi⟩ := h.at (List.getElem?_eq_some_iff.1 hi).1
  obtain rfl := Option.some.inj (hi.symm.trans h0)
  clear h0
  obtain ⟨l1, l2, l3⟩ := put_len m q c
  have hq := h.els k q hk
  have hkl : k < R.inner.length := by rw [h.ni]; exact (List.getElem?_eq_some_iff.1 hk).1
  have hil : i < R.par.length := by rw [h.np]; exact (List.getElem?_eq_some_iff.1 hi).1
  have hcq : c ≠ q := fun e => by
    obtain rfl := h.uni i k c hi (e ▸ hk)
    rw [und_self] at hu
    cases hu
  -- an item that is not c itself
  have keep : ∀ {p c' : Nat} {y : S115}, c' ≠ c → Item m p c' y → Item (m.put q c) p c' y := fun {p c' y} hne hI => by
    refine Item.step hI (fun e q he => by rw [l2]; exact he) (fun e he => by rw [l2] at he; exact he) fun cd h1 h2 => ?_
    refine ⟨_, put_at hkd hq h1, rfl, rfl, rfl, by dsimp only; rw [if_neg hne]; exact h2, fun e1 e2 => ?_⟩
    have hne2 : c' ≠ q := fun e => e2 k (e ▸ hk)
    dsimp only
    rw [e1, if_neg hne2]
    split <;> rfl
  constructor
  · rw [l2]; exact h.nn
  · rw [l2]; exact h.na
  · rw [l2]; show ((R.leave i).set k _).length = _; rw [List.length_set, Rm.leave_length]; exact h.ni
  · rw [l2]; show (R.par.set i _).length = _; rw [List.length_set]; exact h.np
  · rw [l3]; exact h.cp
  · rw [l3]; exact h.cle
  · rw [l2]; exact h.elen
  · rw [l1]; exact h.nlen
  · rw [l2]; exact h.root
  · rw [l2, l1]; exact h.els
  · rw [l2]; exact h.uni
  · rw [l1, l2]
    exact h.put_all hkd hk
  · intro j p nd' nm a l' x' hj hnd' hnm ha hl' hx'
    rw [l2] at hj
    rw [put_get hkd hq] at hnd'
    obtain ⟨nd, hnd, rfl⟩ := Option.map_eq_some_iff.1 hnd'
    rw [rappend_get R k i j hkl] at hl'
    obtain ⟨l, hl, rfl⟩ := Option.map_eq_some_iff.1 hl'
    have hjl := (List.getElem?_eq_some_iff.1 hj).1
    obtain ⟨x, hx⟩ : ∃ x, R.par[j]? = some x := ⟨_, List.getElem?_eq_getElem (by rw [h.np]; exact hjl)⟩
    have hE := h.el j p nd nm a l x hj hnd hnm ha hl hx
    have hiff := Stands.iff h hEi.par hj
    have hpq : p = q ↔ j = k := ⟨fun e => h.uni j k q (e ▸ hj) hk, fun e => by subst e; exact Option.some.inj (hj.symm.trans hk)⟩
    have hpc : p = c ↔ j = i := ⟨fun e => h.uni j i c (e ▸ hj) hi, fun e => by subst e; exact Option.some.inj (hj.symm.trans hi)⟩
    have hx2 : x' = if p = c then (k : Int) else x := by
      have hx' : (R.par.set i (k : Int))[j]? = some x' := hx'
      by_cases e : p = c
      · have e2 := hpc.1 e
        subst e2
        rw [List.getElem?_set_self hil] at hx'
        rw [if_pos e]
        exact (Option.some.inj hx').symm
      · have e2 : i ≠ j := fun e' => e (hpc.2 e'.symm)
        rw [List.getElem?_set_ne e2] at hx'
        rw [if_neg e]
        exact Option.some.inj (hx'.symm.trans hx)
    have hcond : (R.par[i]? = some (j : Int)) ↔ kd.parent = some p := by
      rw [hxi]
      exact ⟨fun e => hiff.2 (Option.some.inj e), fun e => congrArg some (hiff.1 e)⟩
    have hin : All2 (Item m p) (if kd.parent = some p then nd.inner.filter (· != c) else nd.inner) (if R.par[i]? = some (j : Int) then l.filter (fun y => y.f1 != (i : Int)) else l) := by
      by_cases e : kd.parent = some p
      · rw [if_pos e, if_pos (hcond.2 e)]
        exact hE.inn.filter fun c' y _ hI => Item.iff h hi0 hi hI
      · rw [if_neg e, if_neg (fun e' => e (hcond.1 e'))]
        exact hE.inn
    have hnc : c ∉ (if kd.parent = some p then nd.inner.filter (· != c) else nd.inner) := by
      intro hm
      by_cases e : kd.parent = some p
      · rw [if_pos e] at hm
        have := (List.mem_filter.1 hm).2
        simp at this
      · rw [if_neg e] at hm
        obtain ⟨y, _, cd, h1, h2, _⟩ := hE.inn.left hm
        obtain rfl := Option.some.inj (hkd.symm.trans h1)
        exact e h2
    refine ⟨hE.name, hE.att, hE.text, hE.named, ?_, ?_, ?_⟩
    · rw [hx2]
      dsimp only
      by_cases e : p = c
      · rw [if_pos e, if_pos e]
        exact .inr ⟨k, q, rfl, by rw [l2]; exact hk, rfl⟩
      · rw [if_neg e, if_neg e]
        exact hE.par.mono fun e q he => by rw [l2]; exact he
    · dsimp only
      refine List.nodup_append.2 ⟨?_, ?_, fun a ha b hb => ?_⟩
      · split
        · exact hE.nod.filter _
        · exact hE.nod
      · split
        · exact (by simp)
        · exact List.nodup_nil
      · intro e
        subst e
        split at hb
        · exact hnc (List.mem_singleton.1 hb ▸ ha)
        · cases hb
    · dsimp only
      refine All2.app (hin.imp fun c' y hc' _ hI => keep (fun e => hnc (e ▸ hc')) hI) ?_
      by_cases e : p = q
      · rw [if_pos e, if_pos (hpq.1 e)]
        exact ⟨⟨_, put_at hkd hq hkd, by dsimp only; rw [if_pos rfl, e], .inr ⟨i, hi0, rfl, by rw [l2]; exact hi⟩⟩, trivial⟩
      · rw [if_neg e, if_neg (fun e' => e (hpq.2 e'))]
        exact trivial
  · intro x y hxy
    have hxy : (R.par.set i (k : Int))[x]? = some (y : Int) := hxy
    by_cases e : i = x
    · subst e
      rw [List.getElem?_set_self hil] at hxy
      obtain rfl : k = y := by have := Option.some.inj hxy; omega
      exact lift_new (und_self _) hu
    · rw [List.getElem?_set_ne e] at hxy
      exact lift_old h.acy hxy
/-! ### Text -/
theorem empty_list : (⟨#[]⟩ : ByteArray).toList = [] := by decide +kernel
theorem list_set {α : Type} {l : List α} {i j : Nat} {x y : α} (h : (l.set i x)[j]? = some y) : (i = j ∧ y = x ∧ i < l.length) ∨ (i ≠ j ∧ l[j]? = some y) := by
  by_cases e : i = j
  · subst e
    have hl := (List.getElem?_eq_some_iff.1 h).1
    rw [List.length_set] at hl
    rw [List.getElem?_set_self hl] at h
    exact .inl ⟨rfl, (Option.some.inj h).symm, hl⟩
  · rw [List.getElem?_set_ne e] at h
    exact .inr ⟨e, h⟩
theorem addText_get {m : M} {p : Nat} (hp : p < m.nodes.length) (s : ByteArray) {b : Nat} {nd' : Nd} (h : (m.addText p s).nodes[b]? = some nd') :
    (∃ nd, m.nodes[b]? = some nd ∧ nd' = { nd with inner := nd.inner ++ if b = p then [m.nodes.length] else [] }) ∨ (b = m.nodes.length ∧ nd' = ⟨⟨#[]⟩, [], s, some p, []⟩) := by
  unfold M.addText at h
  rw [put_get (m := { m with nodes := m.nodes ++ [⟨⟨#[]⟩, [], s, none, []⟩] }) (kd := ⟨⟨#[]⟩, [], s, none, []⟩) (snoc_new m.nodes _) (by rw [snoc_len]; omega)] at h
  obtain ⟨nd, hnd, rfl⟩ := Option.map_eq_some_iff.1 h
  rcases snoc_get hnd with hnd | ⟨rfl, rfl⟩
  · have hb := (List.getElem?_eq_some_iff.1 hnd).1
    have e : ¬ b = m.nodes.length := by omega
    exact .inl ⟨nd, hnd, by simp [e]⟩
  · have e : ¬ m.nodes.length = p := by omega
    exact .inr ⟨rfl, by simp [e]⟩
theorem addText_old {m : M} {p : Nat} (hp : p < m.nodes.length) (s : ByteArray) {b : Nat} {nd : Nd} (h : m.nodes[b]? = some nd) : (m.addText p s).nodes[b]? = some { nd with inner := nd.inner ++ if b = p then [m.nodes.length] else [] } := by
  have hb := (List.getElem?_eq_some_iff.1 h).1
  have e : ¬ b = m.nodes.length := by omega
  unfold M.addText
  rw [put_at (m := { m with nodes := m.nodes ++ [⟨⟨#[]⟩, [], s, none, []⟩] }) (kd := ⟨⟨#[]⟩, [], s, none, []⟩) (snoc_new m.nodes _) (by rw [snoc_len]; omega) (snoc_old h)]
  simp [e]
theorem addText_new {m : M} {p : Nat} (hp : p < m.nodes.length) (s : ByteArray) : (m.addText p s).nodes[m.nodes.length]? = some ⟨⟨#[]⟩, [], s, some p, []⟩ := by
  have e : ¬ m.nodes.length = p := by omega
  unfold M.addText
  rw [put_at (m := { m with nodes := m.nodes ++ [⟨⟨#[]⟩, [], s, none, []⟩] }) (kd := ⟨⟨#[]⟩, [], s, none, []⟩) (snoc_new m.nodes _) (by rw [snoc_len]; omega) (snoc_new m.nodes _)]
  simp [e]
theorem addText_len {m : M} {p : Nat} (s : ByteArray) : (m.addText p s).nodes.length = m.nodes.length + 1 ∧ (m.addText p s).elems = m.elems ∧ (m.addText p s).copies = m.copies := by
  obtain ⟨l1, l2, l3⟩ := put_len { m with nodes := m.nodes ++ [⟨⟨#[]⟩, [], s, none, []⟩] } p m.nodes.length
  exact ⟨l1.trans (snoc_len _ _), l2, l3⟩
theorem Rel.addText {i p : Nat} {l : List S115} (h : Rel m R d t) (hi : m.elems[i]? = some p) (hl : R.inner[i]? = some l) {s : ByteArray} (hs : s.toList ≠ []) (hsz : s.size ≤ 2000000) :
    Rel (m.addText p s) ⟨R.names, R.attrs, R.inner.set i (l ++ [⟨s, 0⟩]), R.par, R.copies⟩ d (t + 1) := by
  obtain ⟨l1, l2, l3⟩ := addText_len (m := m) (p := p) s
  have hp := h.els i p hi
  have keep : ∀ {p' c : Nat} {y : S115}, Item m p' c y → Item (m.addText p s) p' c y := fun {p' c y} hI => by
    refine Item.step hI (fun e q he => by rw [l2]; exact he) (fun e he => by rw [l2] at he; exact he) fun cd h1 h2 => ?_
    refine ⟨_, addText_old hp s h1, rfl, rfl, rfl, h2, fun e1 e2 => ?_⟩
    have hne : c ≠ p := fun e => e2 i (e ▸ hi)
    dsimp only
    rw [e1, if_neg hne]
    rfl
  constructor
  · rw [l2]; exact h.nn
  · rw [l2]; exact h.na
  · rw [l2]; show (R.inner.set i _).length = _; rw [List.length_set]; exact h.ni
  · rw [l2]; exact h.np
  · rw [l3]; exact h.cp
  · rw [l3]; exact Nat.le_succ_of_le h.cle
  · rw [l2]; have := h.elen; omega
  · rw [l1]; have := h.nlen; omega
  · rw [l2]; exact h.root
  · rw [l2, l1]; intro j q hj; have := h.els j q hj; omega
  · rw [l2]; exact h.uni
  · rw [l1, l2]
    intro b nd' hb
    rcases addText_get hp s hb with ⟨nd, hnd, rfl⟩ | ⟨rfl, rfl⟩
    · obtain ⟨h1, h2, h3, h4⟩ := h.all b nd hnd
      refine ⟨fun q hq => by have := h1 q hq; omega, Nat.le_trans h2 (Nat.mul_le_mul_right _ (Nat.le_succ _)), h3, ?_⟩
      by_cases e : b = p
      · subst e
        exact .inr ⟨i, hi⟩
      · rcases h4 with h4 | h4
        · left
          dsimp only
          rw [h4, if_neg e]
          rfl
        · exact .inr h4
    · exact ⟨fun q hq => by have := Option.some.inj hq; omega, by show s.size ≤ _; omega, Nat.zero_le _, .inl rfl⟩
  · intro j q nd' nm a l' x hj hnd' hnm ha hl' hx
    rw [l2] at hj
    rcases addText_get hp s hnd' with ⟨nd, hnd, rfl⟩ | ⟨rfl, _⟩
    · have hjl := (List.getElem?_eq_some_iff.1 hj).1
      obtain ⟨lj, hlj⟩ : ∃ l, R.inner[j]? = some l := ⟨_, List.getElem?_eq_getElem (by rw [h.ni]; exact hjl)⟩
      have hE := h.el j q nd nm a lj x hj hnd hnm ha hlj hx
      have hin := hE.inn.imp (Q := Item (m.addText p s) q) fun c y _ _ hI => keep hI
      refine ⟨hE.name, hE.att, hE.text, hE.named, hE.par.mono fun e q he => by rw [l2]; exact he, ?_, ?_⟩
      · dsimp only
        refine List.nodup_append.2 ⟨hE.nod, by split <;> simp, fun c hc c' hc' => ?_⟩
        split at hc'
        · obtain rfl := List.mem_singleton.1 hc'
          have := (h.inn_lt hj hnd).1 c hc
          omega
        · cases hc'
      · dsimp only
        rcases list_set hl' with ⟨rfl, rfl, _⟩ | ⟨hne, hl'⟩
        · obtain rfl := Option.some.inj (hi.symm.trans hj)
          obtain rfl := Option.some.inj (hl.symm.trans hlj)
          rw [if_pos rfl]
          refine All2.app hin ⟨⟨_, addText_new hp s, rfl, .inl ⟨rfl, ?_, rfl, hs, rfl, rfl, fun e he => ?_⟩⟩, trivial⟩
          · exact empty_list
          · rw [l2] at he
            have := h.els e _ he
            omega
        · obtain rfl := Option.some.inj (hlj.symm.trans hl')
          have hne2 : ¬ q = p := fun e => hne (h.uni i j p hi (e ▸ hj))
          rw [if_neg hne2, List.append_nil]
          exact hin
    · have := h.els j _ hj
      omega
  · exact h.acy
theorem Rel.setText {i p c : Nat} {pd cd : Nd} {ks : List Nat} {ls : List S115} {y : S115} (h : Rel m R d t) (hi : m.elems[i]? = some p) (hpd : m.nodes[p]? = some pd) (hin : pd.inner = ks ++ [c]) (hl : R.inner[i]? = some (ls ++ [y])) (hcd : m.nodes[c]? = some cd)
    (hI : Item m p c y) (hy : y.f1 = 0) {s : ByteArray} (hs : s.toList ≠ []) (hsz : s.size ≤ 2000000) :
    Rel (m.setText c cd s) ⟨R.names, R.attrs, R.inner.set i (ls ++ [⟨y.f0 ++ s, y.f1⟩]), R.par, R.copies⟩ d (t + 1) := by
  obtain ⟨cd', hcd', hcp, hI⟩ := hI
  obtain rfl := Option.some.inj (hcd.symm.trans hcd')
  obtain ⟨_, hname, htext, hne0, hatt, hinn, hnel⟩ : y.f1 = 0 ∧ cd.name.toList = [] ∧ cd.text = y.f0 ∧ y.f0.toList ≠ [] ∧ cd.attrs = [] ∧ cd.inner = [] ∧ ∀ e : Nat, m.elems[e]? ≠ some c := by
    rcases hI with hI | ⟨e, h0, h1, _⟩
    · exact hI
    · omega
  have l1 : (m.setText c cd s).nodes.length = m.nodes.length := setText_len
  have get := setText_get (s := s) hcd
  have old : ∀ {b : Nat} {nd' : Nd}, (m.setText c cd s).nodes[b]? = some nd' → (b = c ∧ nd' = { cd with text := cd.text ++ s }) ∨ (b ≠ c ∧ m.nodes[b]? = some nd') := fun {b nd'} hb => by
    rw [get] at hb
    split at hb
    · rename_i e
      exact .inl ⟨e, (Option.some.inj hb).symm⟩
    · rename_i e
      exact .inr ⟨e, hb⟩
  constructor
  · exact h.nn
  · exact h.na
  · show (R.inner.set i _).length = _; rw [List.length_set]; exact h.ni
  · exact h.np
  · exact h.cp
  · exact Nat.le_succ_of_le h.cle
  · exact Nat.le_succ_of_le h.elen
  · rw [l1]; exact Nat.le_succ_of_le h.nlen
  · exact h.root
  · rw [l1]; exact h.els
  · exact h.uni
  · rw [l1]
    intro b nd' hb
    rcases old hb with ⟨rfl, rfl⟩ | ⟨_, hb⟩
    · obtain ⟨h1, h2, h3, h4⟩ := h.all b cd hcd
      refine ⟨h1, ?_, h3, h4⟩
      show (cd.text ++ s).size ≤ _
      rw [ByteArray.size_append]
      omega
    · obtain ⟨h1, h2, h3, h4⟩ := h.all b nd' hb
      exact ⟨h1, Nat.le_trans h2 (Nat.mul_le_mul_right _ (Nat.le_succ _)), h3, h4⟩
  · intro j q nd' nm a l' x hj hnd' hnm ha hl' hx
    have hj : m.elems[j]? = some q := hj
    rcases old hnd' with ⟨rfl, _⟩ | ⟨hqc, hnd⟩
    · exact absurd hj (hnel j)
    have hjl := (List.getElem?_eq_some_iff.1 hj).1
    obtain ⟨lj, hlj⟩ : ∃ l, R.inner[j]? = some l := ⟨_, List.getElem?_eq_getElem (by rw [h.ni]; exact hjl)⟩
    have hE := h.el j q nd' nm a lj x hj hnd hnm ha hlj hx
    have keep : ∀ {c' : Nat} {z : S115}, c' ≠ c → Item m q c' z → Item (m.setText c cd s) q c' z := fun {c' z} hne hI => hI.cong rfl (by rw [get, if_neg hne])
    refine ⟨hE.name, hE.att, hE.text, hE.named, hE.par.mono fun e q he => he, hE.nod, ?_⟩
    rcases list_set hl' with ⟨rfl, rfl, _⟩ | ⟨hne, hl'⟩
    · obtain rfl := Option.some.inj (hi.symm.trans hj)
      obtain rfl := Option.some.inj (hpd.symm.trans hnd)
      obtain rfl := Option.some.inj (hl.symm.trans hlj)
      have h2 := hE.inn
      have hnod := hE.nod
      rw [hin] at h2 hnod ⊢
      obtain ⟨bs', b, hb, h3, h4⟩ := All2.last h2
      obtain ⟨hb1, hb2⟩ := List.append_inj' hb rfl
      subst hb1
      refine All2.app (h3.imp fun c' z hc' _ hI => keep (fun e => ?_) hI) ⟨⟨{ cd with text := cd.text ++ s }, by rw [get, if_pos rfl], hcp, .inl ⟨hy, hname, by show cd.text ++ s = y.f0 ++ s; rw [htext], ?_, hatt, hinn, hnel⟩⟩, trivial⟩
      · subst e
        exact (List.nodup_append.1 hnod).2.2 c' hc' c' (List.mem_singleton.2 rfl) rfl
      · show (y.f0 ++ s).toList ≠ []
        rw [app_list]
        intro e
        exact hne0 (List.append_eq_nil_iff.1 e).1
    · obtain rfl := Option.some.inj (hlj.symm.trans hl')
      refine hE.inn.imp fun c' z hc' _ hJ => keep (fun e => ?_) hJ
      subst e
      obtain ⟨cd2, k1, k2, _⟩ := hJ
      obtain rfl := Option.some.inj (hcd.symm.trans k1)
      obtain rfl := Option.some.inj (hcp.symm.trans k2)
      exact hne (h.uni i j p hi hj)
  · exact h.acy
theorem Rel.text {i : Nat} (h : Rel m R d t) (hi : i < m.elems.length) {s : ByteArray} (hsz : s.size ≤ 2000000) : Rel (m.text i s) (R.text i s) d (t + 1) := by
  by_cases hs : s.toList = []
  · have e1 : m.text i s = m := by unfold M.text; rw [hs]; rfl
    have e2 : R.text i s = R := by unfold Rm.text; rw [if_pos hs]
    rw [e1, e2]
    exact h.mono (Nat.le_succ _)
  · have hs2 : s.toList.isEmpty = false := by
      cases e : s.toList with
      | nil => exact absurd e hs
      | cons _ _ => rfl
    obtain ⟨p, nd, nm, a, l, x, h0, hnd, _, _, hl, _, hE⟩ := h.at hi
    have eR : ∀ l', textTo l s = l' → R.text i s = ⟨R.names, R.attrs, R.inner.set i l', R.par, R.copies⟩ := fun l' e => by
      unfold Rm.text
      rw [if_neg hs, List.getD_eq_getElem?_getD, hl, Option.getD_some, e]
    rcases hin : nd.inner.getLast? with _ | c
    · have hnil : nd.inner = [] := by simpa using hin
      have hl0 : l = [] := by
        have := hE.inn.len
        rw [hnil] at this
        exact List.eq_nil_of_length_eq_zero this.symm
      subst hl0
      have e1 : m.text i s = m.addText p s := by unfold M.text; rw [hs2, h0]; simp [hnd, hin]
      rw [e1, eR _ rfl]
      exact h.addText h0 hl hs hsz
    · obtain ⟨ks, hks⟩ := List.getLast?_eq_some_iff.1 hin
      have h2 := hE.inn
      rw [hks] at h2
      obtain ⟨ls, y, rfl, _, hI⟩ := All2.last h2
      obtain ⟨cd, hcd, hcp, hI2⟩ := hI
      by_cases hy : y.f1 = 0
      · have hT : isT c cd = true := by
          rcases hI2 with ⟨_, g1, g2, g3, _, _, g4⟩ | ⟨e, g1, g2, _⟩
          · have hc0 : 0 < c := by
              rcases Nat.eq_zero_or_pos c with rfl | hc
              · exact absurd h.root (g4 0)
              · exact hc
            unfold isT
            rw [g1, decide_eq_true hc0]
            rw [← g2] at g3
            cases e : cd.text.toList with
            | nil => exact absurd e g3
            | cons _ _ => rfl
          · omega
        have e1 : m.text i s = m.setText c cd s := by unfold M.text; rw [hs2, h0]; simp [hnd, hin, hcd, hT]
        have e2 : textTo (ls ++ [y]) s = ls ++ [⟨y.f0 ++ s, y.f1⟩] := by
          unfold textTo
          rw [List.getLast?_concat]
          dsimp only
          rw [if_pos hy, List.dropLast_concat]
        rw [e1, eR _ e2]
        exact h.setText h0 hnd hks hl hcd ⟨cd, hcd, hcp, hI2⟩ hy hs hsz
      · have hT : isT c cd = false := by
          rcases hI2 with ⟨g, _⟩ | ⟨e, g1, g2, g3⟩
          · exact absurd g hy
          · obtain ⟨c2, cd2, nm2, a2, l2, x2, k0, k1, k2, _, _, _, hE2⟩ := h.at (List.getElem?_eq_some_iff.1 g3).1
            obtain rfl := Option.some.inj (g3.symm.trans k0)
            obtain rfl := Option.some.inj (hcd.symm.trans k1)
            have := hE2.named g1
            rw [← hE2.name] at this
            unfold isT
            cases e : cd.name.toList with
            | nil => exact absurd e this
            | cons _ _ => simp
        have e1 : m.text i s = m.addText p s := by unfold M.text; rw [hs2, h0]; simp [hnd, hin, hcd, hT]
        have e2 : textTo (ls ++ [y]) s = (ls ++ [y]) ++ [⟨s, 0⟩] := by
          unfold textTo
          rw [List.getLast?_concat]
          dsimp only
          rw [if_neg hy]
        rw [e1, eR _ e2]
        exact h.addText h0 hl hs hsz
/-! ### Move -/
def goes (l : List S115) (x : Nat) : Bool := l.any fun y => decide (0 < y.f1 ∧ y.f1 = (x : Int))
theorem parTos_get (b : Nat) : ∀ (l : List S115) (par : List Int) (x : Nat), (l.foldl (parTo b) par)[x]? = (par[x]?).map fun v => if goes l x = true then (b : Int) else v
  | [], par, x => by cases h : par[x]? <;> simp [h, goes]
  | y :: l, par, x => by
    rw [List.foldl_cons, parTos_get b l]
    have h1 : (parTo b par y)[x]? = (par[x]?).map fun v => if 0 < y.f1 ∧ y.f1 = (x : Int) then (b : Int) else v := by
      unfold parTo
      by_cases h0 : 0 < y.f1
      · rw [if_pos h0]
        by_cases e : y.f1.toNat = x
        · have e2 : y.f1 = (x : Int) := by omega
          cases hx : par[x]? with
          | none => rw [List.getElem?_eq_none (by rw [List.length_set]; exact List.getElem?_eq_none_iff.1 hx)]; rfl
          | some v =>
            rw [e, List.getElem?_set_self (List.getElem?_eq_some_iff.1 hx).1, Option.map_some, if_pos ⟨h0, e2⟩]
        · have e2 : ¬ (0 < y.f1 ∧ y.f1 = (x : Int)) := by omega
          rw [List.getElem?_set_ne e]
          cases par[x]? with
          | none => rfl
          | some v => rw [Option.map_some, if_neg e2]
      · have e2 : ¬ (0 < y.f1 ∧ y.f1 = (x : Int)) := by omega
        rw [if_neg h0]
        cases par[x]? with
        | none => rfl
        | some v => rw [Option.map_some, if_neg e2]
    rw [h1]
    cases par[x]? with
    | none => rfl
    | some v =>
      rw [Option.map_some, Option.map_some, Option.map_some]
      congr 1
      unfold goes
      rw [List.any_cons]
      by_cases e : 0 < y.f1 ∧ y.f1 = (x : Int)
      · rw [if_pos e, decide_eq_true e]
        simp
      · rw [if_neg e, decide_eq_false e]
        simp
theorem goes_iff (h : Rel m R d t) {p : Nat} {ks : List Nat} {l : List S115} (ha : All2 (Item m p) ks l) {x c : Nat} (hx : m.elems[x]? = some c) : goes l x = true ↔ c ∈ ks := by
  unfold goes
  rw [List.any_eq_true]
  constructor
  · rintro ⟨y, hy, hd⟩
    obtain ⟨h0, h1⟩ := of_decide_eq_true hd
    obtain ⟨c', hc', _, _, _, hI⟩ := ha.right hy
    rcases hI with ⟨h2, _⟩ | ⟨e, _, h2, h3⟩
    · omega
    · obtain rfl : e = x := by omega
      obtain rfl := Option.some.inj (hx.symm.trans h3)
      exact hc'
  · intro hc
    obtain ⟨y, hy, _, _, _, hI⟩ := ha.left hc
    rcases hI with ⟨_, _, _, _, _, _, h2⟩ | ⟨e, h0, h2, h3⟩
    · exact absurd hx (h2 x)
    · obtain rfl := h.uni e x c h3 hx
      exact ⟨y, hy, decide_eq_true ⟨by omega, h2⟩⟩
theorem Rel.move {a b p q : Nat} {pd : Nd} (h : Rel m R d t) (ha : m.elems[a]? = some p) (hb : m.elems[b]? = some q) (hpd : m.nodes[p]? = some pd) (hu : und R.par a (d b) b = false) : Rel (m.moveL q pd.inner) (R.move a b) (lift R.par a b d) t := by
  obtain ⟨p', pd', nma, aa, la, xa, k0, k1, _, _, hla, hxa, hEa⟩ := h.at (List.getElem?_eq_some_iff.1 ha).1
  obtain rfl := Option.some.inj (ha.symm.trans k0)
  obtain rfl := Option.some.inj (hpd.symm.trans k1)
  obtain ⟨q', qd, nmb, ab, lb, xb, k2, hqd, _, _, hlb, hxb, hEb⟩ := h.at (List.getElem?_eq_some_iff.1 hb).1
  obtain rfl := Option.some.inj (hb.symm.trans k2)
  clear k0 k1 k2
  have hab : a ≠ b := fun e => by
    rw [e, und_self] at hu
    cases hu
  have hpq : p ≠ q := fun e => hab (h.uni a b p ha (e ▸ hb))
  have hch : ∀ c ∈ pd.inner, ∃ kd, m.nodes[c]? = some kd ∧ kd.parent = some p ∧ c ≠ p ∧ c ≠ q := fun c hc => by
    obtain ⟨y, _, kd, h1, h2, _⟩ := hEa.inn.left hc
    refine ⟨kd, h1, h2, fun e => ?_, fun e => ?_⟩
    · subst e
      obtain rfl := Option.some.inj (hpd.symm.trans h1)
      have := (Stands.iff h hEa.par ha).1 h2
      rw [this] at hxa
      have := h.acy a a hxa
      omega
    · subst e
      obtain rfl := Option.some.inj (hqd.symm.trans h1)
      have := (Stands.iff h hEb.par ha).1 h2
      rw [this] at hxb
      rw [und_child h.acy hxb] at hu
      cases hu
  have h0 : MvS m m p q pd qd [] pd.inner := ⟨hpd, by rw [List.append_nil]; exact hqd, fun d nd hd _ _ => by rw [if_neg (by simp)]; exact hd⟩
  have hM := MvS.all hpq pd.inner [] m h0 (by rw [List.nil_append]; exact hEa.nod) hch
  rw [List.nil_append] at hM
  obtain ⟨l1, l2, l3⟩ := moveL_len q pd.inner m
  have hin : m.moveL q pd.inner = m.moveL q pd.inner := rfl
  generalize m.moveL q pd.inner = m' at *
  clear hin h0
  have hpn : p ∉ pd.inner := fun e => (hch p e).choose_spec.2.2.1 rfl
  have hqn : q ∉ pd.inner := fun e => (hch q e).choose_spec.2.2.2 rfl
  -- each node
  have at' : ∀ {c : Nat} {nd : Nd}, m.nodes[c]? = some nd → m'.nodes[c]? = some { nd with parent := if c ∈ pd.inner then some q else nd.parent, inner := if c = p then [] else if c = q then nd.inner ++ pd.inner else nd.inner } := fun {c nd} hc => by
    by_cases e1 : c = p
    · subst e1
      obtain rfl := Option.some.inj (hpd.symm.trans hc)
      rw [hM.np, if_neg hpn, if_pos rfl]
    · by_cases e2 : c = q
      · subst e2
        obtain rfl := Option.some.inj (hqd.symm.trans hc)
        rw [hM.nq, if_neg hqn, if_neg e1, if_pos rfl]
      · rw [hM.oth c nd hc e1 e2, if_neg e1, if_neg e2]
  have back : ∀ {c : Nat} {nd' : Nd}, m'.nodes[c]? = some nd' → ∃ nd, m.nodes[c]? = some nd ∧ nd' = { nd with parent := if c ∈ pd.inner then some q else nd.parent, inner := if c = p then [] else if c = q then nd.inner ++ pd.inner else nd.inner } := fun {c nd'} hc => by
    obtain ⟨nd, hnd⟩ : ∃ nd, m.nodes[c]? = some nd := ⟨_, List.getElem?_eq_getElem (by rw [← l1]; exact (List.getElem?_eq_some_iff.1 hc).1)⟩
    exact ⟨nd, hnd, Option.some.inj (hc.symm.trans (at' hnd))⟩
  -- items
  have inn0 : ∀ {c : Nat} {nd : Nd}, nd.inner = [] → (∀ e : Nat, m.elems[e]? ≠ some c) → (if c = p then [] else if c = q then nd.inner ++ pd.inner else nd.inner) = [] := fun {c nd} h1 h2 => by
    rw [if_neg (fun e : c = p => h2 a (by rw [e]; exact ha)), if_neg (fun e : c = q => h2 b (by rw [e]; exact hb)), h1]
  have keep : ∀ {p' c : Nat} {y : S115}, p' ≠ p → Item m p' c y → Item m' p' c y := fun {p' c y} hne hI => by
    refine Item.step hI (fun e q he => by rw [l2]; exact he) (fun e he => by rw [l2] at he; exact he) fun cd g1 g2 => ?_
    refine ⟨_, at' g1, rfl, rfl, rfl, ?_, inn0⟩
    dsimp only
    rw [if_neg (fun e => ?_), g2]
    obtain ⟨kd, e1, e2, _⟩ := hch c e
    obtain rfl := Option.some.inj (e1.symm.trans g1)
    exact hne (Option.some.inj (g2.symm.trans e2))
  have moved : ∀ {c : Nat} {y : S115}, c ∈ pd.inner → Item m p c y → Item m' q c y := fun {c y} hc hI => by
    refine Item.step hI (fun e q he => by rw [l2]; exact he) (fun e he => by rw [l2] at he; exact he) fun cd g1 g2 => ?_
    refine ⟨_, at' g1, rfl, rfl, rfl, ?_, inn0⟩
    dsimp only
    rw [if_pos hc]
  have hal : a < R.inner.length := (List.getElem?_eq_some_iff.1 hla).1
  have hbl : b < R.inner.length := (List.getElem?_eq_some_iff.1 hlb).1
  have hmv : R.move a b = ⟨R.names, R.attrs, (R.inner.set a []).set b (lb ++ la), la.foldl (parTo b) R.par, R.copies⟩ := by
    unfold Rm.move
    rw [List.getD_eq_getElem?_getD, List.getElem?_set_ne hab, hlb, Option.getD_some, List.getD_eq_getElem?_getD, hla, Option.getD_some]
  rw [hmv]
  constructor
  · rw [l2]; exact h.nn
  · rw [l2]; exact h.na
  · rw [l2]; show ((R.inner.set a []).set b _).length = _; rw [List.length_set, List.length_set]; exact h.ni
  · rw [l2]; show (la.foldl (parTo b) R.par).length = _; rw [parTos_length]; exact h.np
  · rw [l3]; exact h.cp
  · rw [l3]; exact h.cle
  · rw [l2]; exact h.elen
  · rw [l1]; exact h.nlen
  · rw [l2]; exact h.root
  · rw [l2, l1]; exact h.els
  · rw [l2]; exact h.uni
  · rw [l1, l2]
    intro c nd' hc
    obtain ⟨nd, hnd, rfl⟩ := back hc
    obtain ⟨h1, h2, h3, h4⟩ := h.all c nd hnd
    refine ⟨fun r hr => ?_, h2, h3, ?_⟩
    · dsimp only at hr
      split at hr
      · have := Option.some.inj hr
        have := h.els b q hb
        omega
      · exact h1 r hr
    · rcases h4 with h4 | h4
      · by_cases e1 : c = p
        · subst e1
          exact .inr ⟨a, ha⟩
        · by_cases e2 : c = q
          · subst e2
            exact .inr ⟨b, hb⟩
          · left
            dsimp only
            rw [if_neg e1, if_neg e2, h4]
      · exact .inr h4
  · intro j c nd' nm at_ l' x' hj hnd' hnm ha' hl' hx'
    rw [l2] at hj
    obtain ⟨nd, hnd, rfl⟩ := back hnd'
    have hjl := (List.getElem?_eq_some_iff.1 hj).1
    obtain ⟨l, hl⟩ : ∃ l, R.inner[j]? = some l := ⟨_, List.getElem?_eq_getElem (by rw [h.ni]; exact hjl)⟩
    obtain ⟨x, hx⟩ : ∃ x, R.par[j]? = some x := ⟨_, List.getElem?_eq_getElem (by rw [h.np]; exact hjl)⟩
    have hE := h.el j c nd nm at_ l x hj hnd hnm ha' hl hx
    have hx2 : x' = if c ∈ pd.inner then (b : Int) else x := by
      have hx' : (la.foldl (parTo b) R.par)[j]? = some x' := hx'
      rw [parTos_get, hx, Option.map_some] at hx'
      have := Option.some.inj hx'
      rw [← this]
      by_cases e : c ∈ pd.inner
      · rw [if_pos e, if_pos ((goes_iff h hEa.inn hj).2 e)]
      · rw [if_neg e, if_neg (fun e' => e ((goes_iff h hEa.inn hj).1 e'))]
    refine ⟨hE.name, hE.att, hE.text, hE.named, ?_, ?_, ?_⟩
    · rw [hx2]
      dsimp only
      by_cases e : c ∈ pd.inner
      · rw [if_pos e, if_pos e]
        exact .inr ⟨b, q, rfl, by rw [l2]; exact hb, rfl⟩
      · rw [if_neg e, if_neg e]
        exact hE.par.mono fun e q he => by rw [l2]; exact he
    · dsimp only
      by_cases e1 : c = p
      · rw [if_pos e1]
        exact List.nodup_nil
      · rw [if_neg e1]
        by_cases e2 : c = q
        · rw [if_pos e2]
          refine List.nodup_append.2 ⟨hE.nod, hEa.nod, fun u hu v hv e => ?_⟩
          subst e
          obtain ⟨kd, g1, g2, _⟩ := hch u hv
          obtain ⟨y, _, kd', g3, g4, _⟩ := hE.inn.left hu
          obtain rfl := Option.some.inj (g1.symm.trans g3)
          exact e1 (Option.some.inj (g4.symm.trans g2))
        · rw [if_neg e2]
          exact hE.nod
    · dsimp only
      have hl' : ((R.inner.set a []).set b (lb ++ la))[j]? = some l' := hl'
      rcases list_set hl' with ⟨rfl, rfl, _⟩ | ⟨hbj, hl'⟩
      · obtain rfl := Option.some.inj (hb.symm.trans hj)
        obtain rfl := Option.some.inj (hlb.symm.trans hl)
        rw [if_neg (fun e => hpq e.symm), if_pos rfl]
        exact All2.app (hE.inn.imp fun c y _ _ hI => keep (fun e => hpq e.symm) hI) (hEa.inn.imp fun c y hc _ hI => moved hc hI)
      · have hcq : c ≠ q := fun e => hbj (h.uni b j q hb (e ▸ hj))
        rcases list_set hl' with ⟨rfl, rfl, _⟩ | ⟨haj, hl'⟩
        · obtain rfl := Option.some.inj (ha.symm.trans hj)
          rw [if_pos rfl]
          show All2 _ ([] : List Nat) ([] : List S115)
          unfold All2
          trivial
        · obtain rfl := Option.some.inj (hl.symm.trans hl')
          have hcp : c ≠ p := fun e => haj (h.uni a j p ha (e ▸ hj))
          rw [if_neg hcp, if_neg hcq]
          exact hE.inn.imp fun c' y _ _ hI => keep hcp hI
  · intro x y hxy
    have hxy : (la.foldl (parTo b) R.par)[x]? = some (y : Int) := hxy
    rw [parTos_get] at hxy
    obtain ⟨v, hv, hvy⟩ := Option.map_eq_some_iff.1 hxy
    by_cases e : goes la x = true
    · rw [if_pos e] at hvy
      obtain rfl : b = y := by omega
      obtain ⟨c, hc⟩ : ∃ c, m.elems[x]? = some c := ⟨_, List.getElem?_eq_getElem (by rw [← h.np]; exact (List.getElem?_eq_some_iff.1 hv).1)⟩
      obtain ⟨kd, g1, g2, _⟩ := hch c ((goes_iff h hEa.inn hc).1 e)
      obtain ⟨c', nd', nm', a', l', x', j0, j1, _, _, _, j5, hE'⟩ := h.at (List.getElem?_eq_some_iff.1 hc).1
      obtain rfl := Option.some.inj (hc.symm.trans j0)
      obtain rfl := Option.some.inj (g1.symm.trans j1)
      have := (Stands.iff h hE'.par ha).1 g2
      rw [this] at j5
      exact lift_new (und_child h.acy j5) hu
    · rw [if_neg e] at hvy
      subst hvy
      exact lift_old h.acy hv
end
end Go.Proofs.Ytcdkcnegejhnhaa.Aa
