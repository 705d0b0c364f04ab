/-
  An arena and a list over it: what each step leaves; the document's example.
-/
import Derived.Test.YtcdkcnegejhnhaaLsPush
namespace Go.Proofs.Ytcdkcnegejhnhaa.Ar
open Go.RowKit Go.Proofs.Ytcdkcnegejhnhaa.PAr Go.Proofs.YtcdkcnegejhnhaaW.PrintWords Go.Proofs.YtcdkcnegejhnhaaW.PrintLast Go.Proofs.YtcdkcnegejhnhaaW.PrintMore
set_option linter.unusedVariables false
/-- An arena at block g, a list over it at block b. -/
def St (w : World) (base g b : Nat) (m : M) (xs : List Int) : Prop := ∃ nv ev vs lv, At w base g m nv ev vs ∧ LsAt w base b g lv xs ∧ ∀ k, Foot g nv ev vs k → k ≠ b ∧ lv.ownBlock ≠ some k
/-- Its numbers. -/
structure Gd (m : M) (xs : List Int) (n : Nat) : Prop where
  els : Els m
  ent : ∀ x ∈ xs, x = -1 ∨ ∃ i : Nat, x = (i : Int) ∧ i < m.elems.length
  nodes : m.nodes.length ≤ n
  elems : m.elems.length ≤ n
  len : xs.length ≤ n
theorem el_get {m : M} (h : Els m) {i : Nat} (hi : i < m.elems.length) (name : ByteArray) (attrs : List S105) : (m.element name attrs).el i = m.el i ∧ ∃ p, (m.element name attrs).elems[i]? = some p ∧ (m.element name attrs).nodes[p]? = some (m.el i) := by
  obtain ⟨p, h1, h2⟩ := h.at_ i hi
  have e1 : (m.element name attrs).elems[i]? = some p := by
    show (m.elems ++ [m.nodes.length])[i]? = some p
    rw [List.getElem?_append_left hi]
    exact h1
  have e2 : (m.element name attrs).nodes[p]? = some (m.el i) := by
    show (m.nodes ++ [_])[p]? = some (m.el i)
    rw [List.getElem?_append_left (List.getElem?_eq_some_iff.1 h2).1]
    exact h2
  refine ⟨?_, p, e1, e2⟩
  show (m.element name attrs).nodes.getD ((m.element name attrs).elems.getD i 0) _ = _
  rw [List.getD_eq_getElem?_getD, List.getD_eq_getElem?_getD, e1, Option.getD_some, e2, Option.getD_some]
theorem el_new (m : M) (name : ByteArray) (attrs : List S105) : (m.element name attrs).el m.elems.length = ⟨name, attrs, ⟨#[]⟩, none, []⟩ ∧ (m.element name attrs).elems[m.elems.length]? = some m.nodes.length ∧ (m.element name attrs).nodes[m.nodes.length]? = some ⟨name, attrs, ⟨#[]⟩, none, []⟩ := by
  have e1 : (m.element name attrs).elems[m.elems.length]? = some m.nodes.length := by
    show (m.elems ++ [m.nodes.length])[m.elems.length]? = _
    simp
  have e2 : (m.element name attrs).nodes[m.nodes.length]? = some ⟨name, attrs, ⟨#[]⟩, none, []⟩ := by
    show (m.nodes ++ [_])[m.nodes.length]? = _
    simp
  refine ⟨?_, e1, e2⟩
  show (m.element name attrs).nodes.getD ((m.element name attrs).elems.getD m.elems.length 0) _ = _
  rw [List.getD_eq_getElem?_getD, List.getD_eq_getElem?_getD, e1, Option.getD_some, e2, Option.getD_some]
theorem element_len (m : M) (name : ByteArray) (attrs : List S105) : (m.element name attrs).elems.length = m.elems.length + 1 ∧ (m.element name attrs).nodes.length = m.nodes.length + 1 := by simp [M.element]
theorem Gd.element {m : M} {xs : List Int} {n : Nat} (h : Gd m xs n) (name : ByteArray) (attrs : List S105) (ha : attrs.length < 1000000) : Gd (m.element name attrs) xs (n + 1) where
  els := {
    at_ := fun i hi => by
      rw [(element_len m name attrs).1] at hi
      by_cases hlt : i < m.elems.length
      · obtain ⟨e, p, h1, h2⟩ := el_get h.els hlt name attrs
        exact ⟨p, h1, by rw [e]; exact h2⟩
      · obtain rfl : i = m.elems.length := by omega
        obtain ⟨e, h1, h2⟩ := el_new m name attrs
        exact ⟨_, h1, by rw [e]; exact h2⟩
    few := fun i hi => by
      rw [(element_len m name attrs).1] at hi
      by_cases hlt : i < m.elems.length
      · rw [(el_get h.els hlt name attrs).1]
        exact h.els.few i hlt
      · obtain rfl : i = m.elems.length := by omega
        rw [(el_new m name attrs).1]
        exact ha }
  ent := fun x hx => (h.ent x hx).imp id fun ⟨i, e, hi⟩ => ⟨i, e, by rw [(element_len m name attrs).1]; omega⟩
  nodes := by rw [(element_len m name attrs).2]; have := h.nodes; omega
  elems := by rw [(element_len m name attrs).1]; have := h.elems; omega
  len := by have := h.len; omega
theorem pushL_mem {m : M} {xs : List Int} {e : Nat} {x : Int} (h : x ∈ pushL m xs e) : x ∈ xs ∨ x = (e : Int) := by
  unfold pushL at h
  split at h
  · rcases List.mem_append.1 h with h | h
    · rcases List.mem_append.1 h with h | h
      · exact .inl (List.mem_of_mem_take h)
      · exact .inl (List.mem_of_mem_drop h)
    · exact .inr (List.mem_singleton.1 h)
  · rcases List.mem_append.1 h with h | h
    · exact .inl h
    · exact .inr (List.mem_singleton.1 h)
theorem pushL_len (m : M) (xs : List Int) (e : Nat) : (pushL m xs e).length ≤ xs.length + 1 := by
  unfold pushL
  split
  · rw [List.length_append, List.length_append, List.length_take, List.length_drop, List.length_singleton]; omega
  · simp
theorem Gd.push {m : M} {xs : List Int} {n : Nat} (h : Gd m xs n) (e : Nat) (he : e < m.elems.length) : Gd m (pushL m xs e) (n + 1) where
  els := h.els
  ent := fun x hx => (pushL_mem hx).elim (h.ent x) fun ex => .inr ⟨e, ex, he⟩
  nodes := by have := h.nodes; omega
  elems := by have := h.elems; omega
  len := by have := h.len; have := pushL_len m xs e; omega
theorem Gd.mark {m : M} {xs : List Int} {n : Nat} (h : Gd m xs n) : Gd m (xs ++ [-1]) (n + 1) where
  els := h.els
  ent := fun x hx => (List.mem_append.1 hx).elim (h.ent x) fun e => .inl (List.mem_singleton.1 e)
  nodes := by have := h.nodes; omega
  elems := by have := h.elems; omega
  len := by have := h.len; rw [List.length_append, List.length_singleton]; omega
theorem Gd.new : Gd M.new [] 1 where
  els := ⟨fun i hi => ⟨0, by
    obtain rfl : i = 0 := by simp [M.new] at hi; exact hi
    exact ⟨rfl, rfl⟩⟩, fun i hi => by
    obtain rfl : i = 0 := by simp [M.new] at hi; exact hi
    decide⟩
  ent := fun x hx => by cases hx
  nodes := by simp [M.new]
  elems := by simp [M.new]
  len := by simp
theorem St.base_le {w : World} {base g b : Nat} {m : M} {xs : List Int} (h : St w base g b m xs) : base ≤ w.heap.size := by
  obtain ⟨nv, ev, vs, lv, h1, h2, h3⟩ := h
  exact Nat.le_trans h2.le (Nat.le_of_lt h2.lt)
theorem St.below {w w1 : World} {base g b : Nat} {m : M} {xs : List Int} (h : St w base g b m xs) (hb : Below w.heap.size w w1) : St w1 base g b m xs := by
  obtain ⟨nv, ev, vs, lv, h1, h2, h3⟩ := h
  exact ⟨nv, ev, vs, lv, h1.below hb, h2.below hb, h3⟩
theorem LsAt.typed {w : World} {base g b : Nat} {lv : Value} {xs : List Int} (h : LsAt w base b g lv xs) (k : Nat) (hk : k = b ∨ lv.ownBlock = some k) : ¬ Typed w 105 k := fun e => by
  rcases hk with rfl | hk
  · exact Typed.ne ⟨_, h.hb⟩ e (by decide) rfl
  · exact (h.row.typed k hk).ne e (by decide) rfl
/-- The arena's doing leaves the list; the list's the arena. -/
theorem St.left {w w' : World} {base g b : Nat} {m m' : M} {nv ev lv : Value} {vs : List NV} {xs : List Int} (h1 : At w base g m nv ev vs) (h2 : LsAt w base b g lv xs) (h3 : ∀ k, Foot g nv ev vs k → k ≠ b ∧ lv.ownBlock ≠ some k)
    (hL : Left w base g m' nv ev vs w') : St w' base g b m' xs ∧ Below base w w' := by
  obtain ⟨nv', ev', vs', a1, a2, a3⟩ := hL
  refine ⟨⟨nv', ev', vs', lv, a1, ⟨(a3.block b h2.lt (fun e => (h3 b e).1 rfl)).trans h2.hb, h2.le, h2.row.move fun k hk => a3.block k (h2.row.lt k hk).2 (fun e => (h3 k e).2 hk)⟩, fun k hk => ?_⟩,
    a3.below (Nat.le_trans h2.le (Nat.le_of_lt h2.lt)) fun k hk => (h1.foot_lt k hk).1⟩
  rcases a2 k hk with e | e
  · exact h3 k e
  · exact ⟨fun e' => by have := h2.lt; omega, fun e' => by have := (h2.row.lt k e').2; omega⟩
theorem St.post {w w' : World} {base g b : Nat} {m : M} {nv ev lv : Value} {vs : List NV} {xs ys : List Int} (h1 : At w base g m nv ev vs) (h2 : LsAt w base b g lv xs) (h3 : ∀ k, Foot g nv ev vs k → k ≠ b ∧ lv.ownBlock ≠ some k)
    (hL : LsPost w base b g lv ys w') : St w' base g b m ys ∧ Below base w w' := by
  obtain ⟨lv', a1, a2, a3⟩ := hL
  refine ⟨⟨nv, ev, vs, lv', h1.keep a3 (fun k hk => ⟨fun e => ?_, h2.typed k hk⟩), a1, fun k hk => ⟨(h3 k hk).1, fun e => ?_⟩⟩,
    a3.below (Nat.le_trans h2.le (Nat.le_of_lt h2.lt)) fun k hk => ?_⟩
  · rcases hk with e' | e'
    · exact (h3 k e).1 e'
    · exact (h3 k e).2 e'
  · rcases a2 k e with e' | e'
    · exact (h3 k hk).2 e'
    · have := (h1.foot_lt k hk).2
      omega
  · rcases hk with rfl | e
    · exact h2.le
    · exact (h2.row.lt k e).1
theorem st_element {w : World} {base g b n : Nat} {m : M} {xs : List Int} (h : St w base g b m xs) (gd : Gd m xs n) (hn : n ≤ 99999) (name : ByteArray) (A0 : Option Addr) (c0 : Nat) (attrs : List S105) (hC : Kd.C k105 w A0 attrs.length attrs) (hc : attrs.length ≤ c0) (hl : attrs.length < 1000000) :
    Calls Try.prog 19 #[.pointer (some ⟨g, 0, none⟩), .string name, .slice A0 attrs.length c0] w fun e w' => e = .returned (.int .i64 (m.elems.length : Int)) ∧ St w' base g b (m.element name attrs) xs ∧ Below base w w' := by
  obtain ⟨nv, ev, vs, lv, h1, h2, h3⟩ := h
  refine (element_calls h1 name A0 c0 attrs hC hc (by omega) (Nat.le_trans h2.le (Nat.le_of_lt h2.lt)) (by have := gd.nodes; omega) (by have := gd.elems; omega)).mono ?_
  rintro e w' ⟨rfl, hL⟩
  exact ⟨rfl, St.left h1 h2 h3 hL⟩
theorem st_push {w : World} {base g b n : Nat} {m : M} {xs : List Int} (h : St w base g b m xs) (gd : Gd m xs n) (hn : n ≤ 99999) (e : Nat) (he : e < m.elems.length) :
    Calls Try.prog 32 #[.pointer (some ⟨b, 0, none⟩), .int .i64 (e : Int)] w fun en w' => en = .returned (.tuple #[]) ∧ St w' base g b m (pushL m xs e) ∧ Below base w w' := by
  obtain ⟨nv, ev, vs, lv, h1, h2, h3⟩ := h
  refine (push_calls h1 gd.els h2 gd.ent (by have := gd.len; omega) (Nat.le_trans h2.le (Nat.le_of_lt h2.lt)) e he).mono ?_
  rintro en w' ⟨rfl, hL⟩
  exact ⟨rfl, St.post h1 h2 h3 hL⟩
theorem st_mark {w : World} {base g b n : Nat} {m : M} {xs : List Int} (h : St w base g b m xs) (gd : Gd m xs n) (hn : n ≤ 99999) :
    Calls Try.prog 53 #[.pointer (some ⟨b, 0, none⟩)] w fun en w' => en = .returned (.tuple #[]) ∧ St w' base g b m (xs ++ [-1]) ∧ Below base w w' := by
  obtain ⟨nv, ev, vs, lv, h1, h2, h3⟩ := h
  refine (lmark_calls h2 (Nat.le_trans h2.le (Nat.le_of_lt h2.lt)) (by have := gd.len; omega)).mono ?_
  rintro en w' ⟨rfl, hL⟩
  exact ⟨rfl, St.post h1 h2 h3 hL⟩
theorem st_all {w : World} {base g b n : Nat} {m : M} {xs : List Int} (h : St w base g b m xs) (gd : Gd m xs n) (hn : n ≤ 99999) :
    Calls Try.prog 35 #[.pointer (some ⟨b, 0, none⟩)] w fun e w' => ∃ v', e = .returned v' ∧ IR w' w.heap.size v' xs ∧ Below w.heap.size w w' := by
  obtain ⟨nv, ev, vs, lv, h1, h2, h3⟩ := h
  exact all_calls h2 (by have := gd.len; omega)
/-- A new arena and a new list. -/
theorem st_new {w1 : World} {g : Nat} {m : M} {foot : Nat → Prop} {base : Nat} (hA : IsA w1 base g m foot) (hb : base ≤ w1.heap.size) :
    Calls Try.prog 31 #[.pointer (some ⟨g, 0, none⟩)] w1 fun e w' => e = .returned (.pointer (some ⟨w1.heap.size, 0, none⟩)) ∧ St w' base g w1.heap.size m [] ∧ Below w1.heap.size w1 w' := by
  obtain ⟨nv, ev, vs, h1, _⟩ := hA
  refine (lnew_calls w1 g base hb).mono ?_
  rintro e w' ⟨rfl, h2, h3⟩
  exact ⟨rfl, ⟨nv, ev, vs, _, h1.below h3, h2, fun k hk => ⟨fun e => by have := (h1.foot_lt k hk).2; omega, fun e => by cases e⟩⟩, h3⟩
theorem C_nil (w : World) : Kd.C k105 w none ([] : List S105).length [] := ⟨rfl, by simp, fun hh => by simp at hh⟩
theorem IR.reads {w : World} {base : Nat} {v : Value} {xs : List Int} (h : IR w base v xs) : ∃ A c, v = .slice A xs.length c ∧ xs.length ≤ c ∧ Kd.C (Kd.int .i64) w A xs.length xs := by
  rcases h.split with ⟨rfl, rfl⟩ | ⟨b, cap, cur, rfl, _, _, h4, h5, _⟩
  · exact ⟨_, _, rfl, Nat.le_refl _, ⟨rfl, by simp, fun hh => by simp at hh⟩⟩
  · refine ⟨_, _, rfl, h4, ⟨rfl, by simp only [maxLen] at h5; omega, fun hh => ⟨_, rfl, fun j p hj => ⟨[.int .i64 p], rfl, rfl, fun i u hu => ?_⟩⟩⟩⟩
    obtain ⟨hj1, rfl⟩ := List.getElem?_eq_some_iff.1 hj
    cases i with
    | zero =>
      obtain rfl : Value.int .i64 xs[j] = u := by simpa using hu
      have := h.cells j hj1
      rw [List.getD_eq_getElem?_getD, List.getElem?_eq_getElem hj1] at this
      show w.cell? ((⟨b, 0, none⟩ : Addr).add (j * 1 + 0)) = some (.int .i64 xs[j])
      rw [Nat.mul_one, Nat.add_zero]
      by_cases h0 : j = 0
      · subst h0
        simpa [Addr.add] using this
      · simpa [Addr.add, h0] using this
    | succ i => simp at hu
end Go.Proofs.Ytcdkcnegejhnhaa.Ar
