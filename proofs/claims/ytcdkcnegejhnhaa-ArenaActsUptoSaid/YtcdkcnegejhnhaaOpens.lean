/-
  Arguments that are structs, and rows of structs, opened: what a reading of them tells of the cells.
-/
import Derived.Test.YtcdkcnegejhnhaaProg
import Derived.Test.YtcdkcnegejhnhaaWWords
import Derived.OpenShut
import Derived.ChangeSame
import Derived.DataReads
import Derived.SliceStrings
namespace Go.Proofs.YtcdkcnegejhnhaaW.Opens
open Go.ChangeShapes Go.WideShapes Go.RowKit Go.Proofs.YtcdkcnegejhnhaaW.PrintWords

theorem list_of_each {α : Type} {p : Nat → α → Prop} : ∀ {n : Nat}, (∀ i, i < n → ∃ x, p i x) → ∃ xs : List α, xs.length = n ∧ ∀ i x, xs[i]? = some x → p i x
  | 0, _ => ⟨[], rfl, fun i x h => by simp at h⟩
  | n + 1, h => by
    obtain ⟨xs, hl, hx⟩ := list_of_each (n := n) (p := p) fun i hi => h i (by omega)
    obtain ⟨y, hy⟩ := h n (by omega)
    refine ⟨xs ++ [y], by simp [hl], fun i x hi => ?_⟩
    by_cases hlt : i < n
    · rw [List.getElem?_append_left (by omega)] at hi
      exact hx i x hi
    · rw [List.getElem?_append_right (by omega)] at hi
      have : i = n := by
        have := (List.getElem?_eq_some_iff.1 hi).1
        simp at this
        omega
      subst this
      rw [hl, Nat.sub_self] at hi
      obtain rfl : y = x := by simpa using hi
      exact hy
section
variable {H : Type} {enc : TypeId × Value → H} {P : Program} {W : World} {base : Nat} {spare : Nat → Bool} {held : Bool}
theorem open_C {α : Type} (d : Kd α) {t e : TypeId} (good : α → Prop) (ht : P.underlying t = some (.slice e)) (hce : P.cellsOf e = d.sz)
    (hO : ∀ n cs x, DataW.trod enc P W base spare held n e cs = some x → ∃ a, d.K W a cs ∧ good a) {A : Option Addr} {len cap : Nat} {dd : DataW H} {ps : List MemPlace}
    (h : DataW.Trod enc P W base spare held t (.slice A len cap) dd ps) : ∃ xs, Kd.C d W A len xs ∧ xs.length = len ∧ len ≤ cap ∧ len ≤ maxLen ∧ ∀ x ∈ xs, good x := by
  obtain ⟨fuel, hf⟩ := h
  rcases DataW.trod_slice ht hf with ⟨hcs, _⟩ | ⟨a, l, c, elems, rest, n, _, hcs, _, _, hl, hm, hlen, hel, _, _⟩
  · simp [Value.cells] at hcs
    obtain ⟨rfl, rfl, rfl⟩ := hcs
    exact ⟨[], ⟨rfl, by omega, fun hh => by omega⟩, rfl, Nat.le_refl _, Nat.zero_le _, fun x hx => by cases hx⟩
  · simp [Value.cells] at hcs
    obtain ⟨rfl, rfl, rfl⟩ := hcs
    obtain ⟨xs, hxl, hx⟩ := list_of_each (n := len) (p := fun i x => ∃ c, W.cells? base (a.add (i * d.sz)) d.sz = some c ∧ d.K W x c ∧ good x) fun i hi => by
      have h1 := hel i hi
      rw [List.getElem?_eq_getElem (by omega), Option.bind_eq_some_iff, hce] at h1
      obtain ⟨c, hc, ht⟩ := h1
      obtain ⟨y, hy, hg⟩ := hO _ _ _ ht
      exact ⟨y, c, hc, hy, hg⟩
    have hmx : len ≤ maxLen := Nat.le_trans hl hm
    refine ⟨xs, ⟨hxl, by simp only [maxLen] at hmx; omega, fun hh => ⟨a, rfl, fun j p hj => ?_⟩⟩, hxl, hl, hmx, fun x hx' => ?_⟩
    · obtain ⟨c, hc, hk, _⟩ := hx j p hj
      refine ⟨c, d.K_len hk, hk, fun i u hu => ?_⟩
      obtain ⟨_, hcl, hcc⟩ := World.cells?_some hc
      have := hcc i (by rw [← hcl]; exact (List.getElem?_eq_some_iff.1 hu).1)
      rw [hu] at this
      rw [← this, Addr.add_add]
    · obtain ⟨i, hi⟩ := List.getElem?_of_mem hx'
      exact (hx i x hi).choose_spec.2.2
/-- A struct of two texts. -/
theorem open_two {e s0 s1 : TypeId} {f0 f1 : Field} (ht : P.underlying e = some (.struct #[f0, f1])) (he : P.cellsOf e = 2) (h0 : f0.offset = 0 ∧ f0.type = s0) (h1 : f1.offset = 1 ∧ f1.type = s1)
    (hs0 : P.underlying s0 = some .string) (hs1 : P.underlying s1 = some .string) (hc0 : P.cellsOf s0 = 1) (hc1 : P.cellsOf s1 = 1)
    {n : Nat} {cs : List Value} {x : DataW H × List MemPlace} (h : DataW.trod enc P W base spare held n e cs = some x) : ∃ a b : ByteArray, cs = [.string a, .string b] ∧ a.size ≤ maxLen ∧ b.size ≤ maxLen := by
  obtain ⟨y0, y1, m, _, hl, e0, e1⟩ := trod_struct2 ht h
  obtain ⟨ho0, ht0⟩ := h0
  obtain ⟨ho1, ht1⟩ := h1
  rw [ho0, ht0, hc0] at e0
  rw [ho1, ht1, hc1] at e1
  rw [he] at hl
  match cs, hl with
  | [v0, v1], _ =>
    obtain ⟨a, ha, _, ha2⟩ := DataW.trod_string hs0 e0
    obtain ⟨b, hb, _, hb2⟩ := DataW.trod_string hs1 e1
    obtain rfl : v0 = _ := (List.cons.inj ha).1
    obtain rfl : v1 = _ := (List.cons.inj hb).1
    exact ⟨a, b, rfl, ha2, hb2⟩
/-- One cell of a struct that is an argument. -/
theorem cell_int {s : TypeId} {k : IntKind} {n i : Nat} {cs : List Value} {y : DataW H × List MemPlace} {v : Value} (hs : P.underlying s = some (.int k)) (hc : P.cellsOf s = 1) (hv : cs[i]? = some v)
    (h : DataW.trod enc P W base spare held n s ((cs.drop i).take (P.cellsOf s)) = some y) : ∃ z, v = .int k z ∧ (Lit.int k z).wf = true := by
  obtain ⟨hi, hv⟩ := List.getElem?_eq_some_iff.1 hv
  rw [hc, List.drop_eq_getElem_cons hi, hv] at h
  obtain ⟨z, hz, _, hw⟩ := DataW.trod_int hs h
  exact ⟨z, (List.cons.inj hz).1, hw⟩
theorem cell_string {s : TypeId} {n i : Nat} {cs : List Value} {y : DataW H × List MemPlace} {v : Value} (hs : P.underlying s = some .string) (hc : P.cellsOf s = 1) (hv : cs[i]? = some v)
    (h : DataW.trod enc P W base spare held n s ((cs.drop i).take (P.cellsOf s)) = some y) : ∃ z, v = .string z ∧ z.size ≤ maxLen := by
  obtain ⟨hi, hv⟩ := List.getElem?_eq_some_iff.1 hv
  rw [hc, List.drop_eq_getElem_cons hi, hv] at h
  obtain ⟨z, hz, _, hw⟩ := DataW.trod_string hs h
  exact ⟨z, (List.cons.inj hz).1, hw⟩
theorem cell_slice {s e : TypeId} {n i : Nat} {cs : List Value} {y : DataW H × List MemPlace} {v : Value} (hs : P.underlying s = some (.slice e)) (hc : P.cellsOf s = 1) (hv : cs[i]? = some v)
    (h : DataW.trod enc P W base spare held n s ((cs.drop i).take (P.cellsOf s)) = some y) : ∃ A l c, v = .slice A l c ∧ DataW.Trod enc P W base spare held s (.slice A l c) y.1 y.2 := by
  obtain ⟨hi, hv⟩ := List.getElem?_eq_some_iff.1 hv
  rw [hc, List.drop_eq_getElem_cons hi, hv] at h
  have h' : DataW.trod enc P W base spare held n s [v] = some y := h
  rcases DataW.trod_slice hs h' with ⟨hcs, _⟩ | ⟨a, l, c, _, _, _, _, hcs, _⟩
  · obtain rfl : v = _ := (List.cons.inj hcs).1
    exact ⟨_, _, _, rfl, n, h'⟩
  · obtain rfl : v = _ := (List.cons.inj hcs).1
    exact ⟨_, _, _, rfl, n, h'⟩
end
end Go.Proofs.YtcdkcnegejhnhaaW.Opens
