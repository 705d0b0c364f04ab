/-
  Arenas: what the cells of a node are; a store into one of them.
-/
import Derived.Test.YtcdkcnegejhnhaaArOps
import Derived.Test.YtcdkcnegejhnhaaArClone
namespace Go.Proofs.Ytcdkcnegejhnhaa.Ar
open Go.RowKit Go.Proofs.Ytcdkcnegejhnhaa.PAr Go.Proofs.YtcdkcnegejhnhaaW.PrintWords Go.Proofs.YtcdkcnegejhnhaaW.PrintLast Go.Proofs.YtcdkcnegejhnhaaW.PrintMore
set_option linter.unusedVariables false
section
variable {w w1 : World} {base g : Nat} {m : M} {nv ev : Value} {vs : List NV}
theorem At.node (h : At w base g m nv ev vs) {i : Nat} {nd : Nd} (hi : m.nodes[i]? = some nd) :
    ∃ N cap v, nv = .slice (some ⟨N, 0, none⟩) m.nodes.length cap ∧ vs[i]? = some v ∧ w.cell? ⟨N, i * 5, none⟩ = some (.string nd.name) ∧ w.cell? ⟨N, i * 5 + 1, none⟩ = some v.av ∧ w.cell? ⟨N, i * 5 + 2, none⟩ = some (.string nd.text) ∧
      w.cell? ⟨N, i * 5 + 3, none⟩ = some (.int .i64 (pz nd.parent)) ∧ w.cell? ⟨N, i * 5 + 4, none⟩ = some v.iv ∧ (∀ j, w.frozen? ⟨N, j, none⟩ = false) ∧ i < m.nodes.length := by
  have hlt : i < m.nodes.length := (List.getElem?_eq_some_iff.1 hi).1
  obtain ⟨N, cap, hnv, _, _⟩ := World.ownsRow.form h.row (by omega)
  have hr := h.row
  rw [hnv] at hr
  obtain ⟨v, hv⟩ : ∃ v, vs[i]? = some v := ⟨_, List.getElem?_eq_getElem (by rw [h.rest.len]; exact hlt)⟩
  have hc : ∀ j, j < 5 → w.cell? ⟨N, i * 5 + j, none⟩ = (nodeCells nd v)[j]? := fun j hj => by
    rw [World.ownsRow.cellAt hr (i * 5 + j) (by omega)]
    exact rowCells_get i nd v j h.rest.len hi hv hj
  exact ⟨N, cap, v, hnv, hv, hc 0 (by omega), hc 1 (by omega), hc 2 (by omega), hc 3 (by omega), hc 4 (by omega), fun j => World.ownsRow.frozenAt hr j, hlt⟩
theorem At.elem (h : At w base g m nv ev vs) {i p : Nat} (hi : m.elems[i]? = some p) :
    ∃ E cap, ev = .slice (some ⟨E, 0, none⟩) m.elems.length cap ∧ w.cell? ⟨E, i, none⟩ = some (.int .i64 (p : Int)) ∧ i < m.elems.length := by
  have hlt : i < m.elems.length := (List.getElem?_eq_some_iff.1 hi).1
  have hr : w.ownsRow base 3 1 ev (zn m.elems).length (nums .i64 (zn m.elems)) := h.rest.els
  obtain ⟨E, cap, hev, _, _⟩ := World.ownsRow.form hr (by rw [zn_length]; omega)
  rw [hev] at hr
  refine ⟨E, cap, by rw [hev, zn_length], ?_, hlt⟩
  rw [World.ownsRow.cellAt hr i (by rw [zn_length]; omega)]
  simp [nums, zn, hi]
theorem foot_set {i : Nat} {v v' : NV} (k : Nat) (hv : vs[i]? = some v) (ho : v'.iv.ownBlock = v.iv.ownBlock ∨ ∀ k, v'.iv.ownBlock = some k → w.heap.size ≤ k) (hk : Foot g nv ev (vs.set i v') k) : Foot g nv ev vs k ∨ w.heap.size ≤ k := by
  rcases hk with e | e | e | ⟨u, hu, e⟩
  · exact .inl (.inl e)
  · exact .inl (.inr (.inl e))
  · exact .inl (.inr (.inr (.inl e)))
  · rcases List.mem_or_eq_of_mem_set hu with hu | rfl
    · exact .inl (.inr (.inr (.inr ⟨u, hu, e⟩)))
    · rcases ho with h1 | h1
      · exact .inl (.inr (.inr (.inr ⟨v, List.mem_of_getElem? hv, by rw [← h1]; exact e⟩)))
      · exact .inr (h1 k e)
theorem get_set {α : Type} {l : List α} {i j : Nat} {a b : α} (h : (l.set i a)[j]? = some b) : (i = j ∧ b = a ∧ j < l.length) ∨ (i ≠ j ∧ l[j]? = some b) := by
  by_cases hij : i = j
  · subst hij
    have hlt : i < l.length := by have := (List.getElem?_eq_some_iff.1 h).1; simpa using this
    rw [List.getElem?_set_self hlt] at h
    exact .inl ⟨rfl, (Option.some.inj h).symm, hlt⟩
  · rw [List.getElem?_set_ne hij] at h
    exact .inr ⟨hij, h⟩
theorem At.setInner {N cap i : Nat} {nd : Nd} {v : NV} {iv' : Value} {inner' : List Nat} (h : At w base g m (.slice (some ⟨N, 0, none⟩) m.nodes.length cap) ev vs) (hi : m.nodes[i]? = some nd) (hv : vs[i]? = some v)
    (hk : Kp (fun k => v.iv.ownBlock = some k) w w1) (hO : IR w1 base iv' (zn inner')) (ho : iv'.ownBlock = v.iv.ownBlock ∨ ∀ k, iv'.ownBlock = some k → w.heap.size ≤ k) :
    At (w1.setCell ⟨N, i * 5 + 4, none⟩ iv') base g { m with nodes := m.nodes.set i { nd with inner := inner' } } (.slice (some ⟨N, 0, none⟩) m.nodes.length cap) ev (vs.set i { v with iv := iv' }) := by
  have hlt : i < m.nodes.length := (List.getElem?_eq_some_iff.1 hi).1
  have hvt : ∀ k, v.iv.ownBlock = some k → Typed w 3 k := fun k hk' => (h.rest.inn i nd v hi hv).1.typed k hk'
  have hNt : Typed w 99 N := h.typed_n N rfl
  have hmv : ∀ k, k < w.heap.size → v.iv.ownBlock ≠ some k → N ≠ k → (w1.setCell ⟨N, i * 5 + 4, none⟩ iv').heap[k]? = w.heap[k]? := fun k h1 h2 h3 =>
    (Below.heap_setCell w1 _ _ k (fun e => h3 e.symm)).trans (hk.block k h1 h2)
  have hrow : w1.ownsRow base 99 5 (.slice (some ⟨N, 0, none⟩) m.nodes.length cap) m.nodes.length (rowCells m.nodes vs) := own_move h.row fun k hk' => hk.block k (h.typed_n k hk').lt (fun e => (h.typed_n k hk').ne (hvt k e) (by decide) rfl)
  have hst := (World.ownsRow.stored hrow (i * 5 + 4) iv').1
  rw [rowCells_set i nd { nd with inner := inner' } v { v with iv := iv' } 4 iv' h.rest.len hi hv (by omega) rfl] at hst
  have hls : (m.nodes.set i { nd with inner := inner' }).length = m.nodes.length := List.length_set
  have hvlt : ∀ {j : Nat} {u : NV}, vs[j]? = some u → ∀ k, u.iv.ownBlock = some k → k < w.heap.size := fun {j u} hj k hk' => by
    have hjl : j < m.nodes.length := by rw [← h.rest.len]; exact (List.getElem?_eq_some_iff.1 hj).1
    exact ((h.rest.inn j _ u (List.getElem?_eq_getElem hjl) hj).1.lt k hk').2
  refine ⟨(hmv g h.lt (fun e => h.typed_g.ne (hvt g e) (by decide) rfl) (fun e => h.typed_g.ne hNt (by decide) e.symm)).trans h.hg, h.hbg, by rw [hls]; exact hst, ?_⟩
  refine ⟨by rw [hls, List.length_set]; exact h.rest.len, ?_, fun j nd' u h1 h2 => ?_, fun j u h2 => ?_, fun j l u u' hjl h1 h2 => ?_⟩
  · refine h.rest.els.move fun k hk' => hmv k (h.rest.els.lt k hk').2 (fun e => ?_) (fun e => (h.rest.els.typed k hk').ne hNt (by decide) e.symm)
    rcases h.rest.sep i v hv with e' | e'
    · rw [e'] at e
      cases e
    · exact e' (e.trans hk'.symm)
  · rcases get_set h1 with ⟨rfl, rfl, _⟩ | ⟨hij, h1'⟩
    · rcases get_set h2 with ⟨_, rfl, _⟩ | ⟨hij, _⟩
      · refine ⟨hO.move fun k hk' => Below.heap_setCell w1 _ _ k (fun e => ?_), ?_⟩
        · obtain ⟨c, hc⟩ := hO.typed k hk'
          have hNt1 : Typed w1 99 N := own_typed hrow N rfl
          exact (Typed.ne ⟨c, hc⟩ hNt1 (by decide)) e
        · exact attrs_move (h.rest.inn i nd v hi hv).2 fun k hk' => hmv k hk'.lt (fun e => hk'.ne (hvt k e) (by decide) rfl) (fun e => hk'.ne hNt (by decide) e.symm)
      · exact absurd rfl hij
    · rcases get_set h2 with ⟨e, _, _⟩ | ⟨_, h2'⟩
      · exact absurd e hij
      · obtain ⟨a, b⟩ := h.rest.inn j nd' u h1' h2'
        refine ⟨a.move fun k hk' => hmv k (a.lt k hk').2 (fun e => ?_) (fun e => (a.typed k hk').ne hNt (by decide) e.symm), attrs_move b fun k hk' => hmv k hk'.lt (fun e => hk'.ne (hvt k e) (by decide) rfl) (fun e => hk'.ne hNt (by decide) e.symm)⟩
        rcases h.rest.sep2 i j v u hij hv h2' with e' | e'
        · rw [e'] at e
          cases e
        · exact e' (e.trans hk'.symm)
  · rcases get_set h2 with ⟨rfl, rfl, _⟩ | ⟨hij, h2'⟩
    · rcases ho with e | e
      · rw [show ({ v with iv := iv' } : NV).iv.ownBlock = v.iv.ownBlock from e]
        exact h.rest.sep i v hv
      · rcases hob : iv'.ownBlock with _ | k
        · exact .inl rfl
        · refine .inr fun e' => ?_
          have h3 := e k hob
          have h4 := (h.rest.els.lt k (by rw [← e'])).2
          omega
    · exact h.rest.sep j u h2'
  · rcases get_set h1 with ⟨rfl, rfl, _⟩ | ⟨hij, h1'⟩
    · rcases get_set h2 with ⟨e, _, _⟩ | ⟨_, h2'⟩
      · exact absurd e hjl
      · rcases ho with e | e
        · rw [show ({ v with iv := iv' } : NV).iv.ownBlock = v.iv.ownBlock from e]
          exact h.rest.sep2 i l v u' hjl hv h2'
        · rcases hob : iv'.ownBlock with _ | k
          · exact .inl rfl
          · refine .inr fun e' => ?_
            have h3 := e k hob
            have h4 := hvlt h2' k (by rw [← e'])
            omega
    · rcases get_set h2 with ⟨rfl, rfl, _⟩ | ⟨_, h2'⟩
      · rcases ho with e | e
        · rw [show ({ v with iv := iv' } : NV).iv.ownBlock = v.iv.ownBlock from e]
          exact h.rest.sep2 j i u v hjl h1' hv
        · rcases hob : u.iv.ownBlock with _ | k
          · exact .inl rfl
          · refine .inr fun e' => ?_
            have h3 := e k e'.symm
            have h4 := hvlt h1' k hob
            omega
      · exact h.rest.sep2 j l u u' hjl h1' h2'
/-- A store into a cell of a node that leads nowhere. -/
theorem At.setField {N cap i j : Nat} {nd nd' : Nd} {v : NV} {u : Value} (h : At w base g m (.slice (some ⟨N, 0, none⟩) m.nodes.length cap) ev vs) (hi : m.nodes[i]? = some nd) (hv : vs[i]? = some v) (hj : j < 5)
    (he : (nodeCells nd v).set j u = nodeCells nd' v) (hin : nd'.inner = nd.inner) (hat : nd'.attrs = nd.attrs) :
    At (w.setCell ⟨N, i * 5 + j, none⟩ u) base g { m with nodes := m.nodes.set i nd' } (.slice (some ⟨N, 0, none⟩) m.nodes.length cap) ev vs := by
  have hlt : i < m.nodes.length := (List.getElem?_eq_some_iff.1 hi).1
  have hNt : Typed w 99 N := h.typed_n N rfl
  have hst := (World.ownsRow.stored h.row (i * 5 + j) u).1
  rw [rowCells_set i nd nd' v v j u h.rest.len hi hv hj he] at hst
  have hls : (m.nodes.set i nd').length = m.nodes.length := List.length_set
  have hvs : vs.set i v = vs := by
    apply List.ext_getElem?
    intro l
    by_cases hl : i = l
    · subst hl
      rw [List.getElem?_set_self (by rw [h.rest.len]; exact hlt), hv]
    · rw [List.getElem?_set_ne hl]
  rw [hvs] at hst
  refine ⟨(Below.heap_setCell w _ _ g (fun e => h.typed_g.ne hNt (by decide) e)).trans h.hg, h.hbg, by rw [hls]; exact hst, ?_⟩
  have R := h.rest.move (w1 := w.setCell ⟨N, i * 5 + j, none⟩ u) fun k hk => Below.heap_setCell w _ _ k (fun e => by rcases hk with hk | hk <;> exact hk.ne hNt (by decide) e)
  refine ⟨by rw [hls]; exact R.len, R.els, fun l nd2 u2 h1 h2 => ?_, R.sep, R.sep2⟩
  rcases get_set h1 with ⟨rfl, rfl, _⟩ | ⟨_, h1'⟩
  · have := R.inn i nd u2 hi h2
    rw [hin, hat]
    exact this
  · exact R.inn l nd2 u2 h1' h2
end
end Go.Proofs.Ytcdkcnegejhnhaa.Ar
