/-
  Arenas: what a block of memory is that holds an arena, as a model: nodes one behind the other, the places of elements, the copies; the movers.
-/
import Derived.Test.YtcdkcnegejhnhaaPArx0
namespace Go.Proofs.Ytcdkcnegejhnhaa.Ar
open Go.RowKit Go.Proofs.Ytcdkcnegejhnhaa.PAr Go.Proofs.YtcdkcnegejhnhaaW.PrintWords Go.Proofs.YtcdkcnegejhnhaaW.PrintLast Go.Proofs.YtcdkcnegejhnhaaW.PrintMore
set_option linter.unusedVariables false

/-! ### the model -/
structure Nd where
  name : ByteArray
  attrs : List S105
  text : ByteArray
  parent : Option Nat
  inner : List Nat
structure M where
  nodes : List Nd
  elems : List Nat
  copies : Nat
def pz : Option Nat → Int
  | none => -1
  | some p => (p : Int)
def zn (xs : List Nat) : List Int := xs.map fun x : Nat => (x : Int)
theorem zn_length (xs : List Nat) : (zn xs).length = xs.length := by simp [zn]
theorem zn_append (xs ys : List Nat) : zn (xs ++ ys) = zn xs ++ zn ys := by simp [zn]

/-! ### a frame: what is not of a foot stays -/
/-- The foot, and what has been made since. -/
def Gr (foot : Nat → Prop) (w w' : World) (k : Nat) : Prop := foot k ∨ (w.heap.size ≤ k ∧ k < w'.heap.size)
structure Kp (foot : Nat → Prop) (w w' : World) : Prop where
  os : w'.os = w.os
  tape : w'.tape = w.tape
  output : w'.output = w.output
  size : w.heap.size ≤ w'.heap.size
  block : ∀ k, k < w.heap.size → ¬ foot k → w'.heap[k]? = w.heap[k]?
section
variable {foot foot' : Nat → Prop} {w w1 w2 : World}
theorem Kp.refl (foot : Nat → Prop) (w : World) : Kp foot w w := ⟨rfl, rfl, rfl, Nat.le_refl _, fun _ _ _ => rfl⟩
theorem Kp.of_below (h : Below w.heap.size w w1) : Kp foot w w1 := ⟨h.os, h.tape, h.output, h.size, fun k hk _ => h.block k hk⟩
theorem Kp.of_grown {row : Option Nat} (h : w.grownBy w1 row) (hr : ∀ k, row = some k → foot k) : Kp foot w w1 :=
  ⟨h.os, h.tape, h.output, h.size, fun k hk hf => h.block k hk (fun e => hf (hr k e.symm))⟩
theorem Kp.trans (h : Kp foot w w1) (k : Kp (Gr foot w w1) w1 w2) : Kp foot w w2 :=
  ⟨k.os.trans h.os, k.tape.trans h.tape, k.output.trans h.output, Nat.le_trans h.size k.size, fun i hi hf =>
    (k.block i (Nat.lt_of_lt_of_le hi h.size) (fun e => by
      rcases e with e | e
      · exact hf e
      · omega)).trans (h.block i hi hf)⟩
theorem Kp.trans' (h : Kp foot w w1) (k : Kp foot w1 w2) : Kp foot w w2 :=
  ⟨k.os.trans h.os, k.tape.trans h.tape, k.output.trans h.output, Nat.le_trans h.size k.size, fun i hi hf =>
    (k.block i (Nat.lt_of_lt_of_le hi h.size) hf).trans (h.block i hi hf)⟩
theorem Kp.imp (h : Kp foot w w1) (hf : ∀ k, foot k → foot' k) : Kp foot' w w1 := ⟨h.os, h.tape, h.output, h.size, fun k hk hn => h.block k hk (fun e => hn (hf k e))⟩
theorem Kp.below {B : Nat} (h : Kp foot w w1) (hB : B ≤ w.heap.size) (hf : ∀ k, foot k → B ≤ k) : Below B w w1 :=
  ⟨h.os, h.tape, h.output, h.size, fun k hk => h.block k (by omega) (fun e => by have := hf k e; omega)⟩
theorem Kp.alloc (h : Kp foot w w1) (o : Obj) : Kp foot w (w1.alloc o) :=
  h.trans' (Kp.of_below ((Below.refl _ _).alloc (Nat.le_refl _) o))
theorem Kp.setCell (h : Kp foot w w1) {p : Addr} (hp : foot p.block) (u : Value) : Kp foot w (w1.setCell p u) :=
  h.trans' ⟨rfl, rfl, rfl, by simp [World.setCell], fun k hk hf => Below.heap_setCell w1 p u k (fun e => hf (e ▸ hp))⟩
theorem Gr.mono {k : Nat} (h : Gr foot w w1 k) (hs : w1.heap.size ≤ w2.heap.size) : Gr foot w w2 k := by
  rcases h with h | ⟨h1, h2⟩
  · exact .inl h
  · exact .inr ⟨h1, by omega⟩
theorem Gr.step {k : Nat} (h : Gr (Gr foot w w1) w1 w2 k) (hs : w.heap.size ≤ w1.heap.size) (hs2 : w1.heap.size ≤ w2.heap.size) : Gr foot w w2 k := by
  rcases h with (h | ⟨h1, h2⟩) | ⟨h1, h2⟩
  · exact .inl h
  · exact .inr ⟨h1, by omega⟩
  · exact .inr ⟨by omega, h2⟩
end

/-! ### rows of whole numbers of the call's own -/
def IR (w : World) (base : Nat) (v : Value) (xs : List Int) : Prop := w.ownsRow base 3 1 v xs.length (nums .i64 xs)
theorem IR.move {w w1 : World} {base : Nat} {v : Value} {xs : List Int} (h : IR w base v xs) (hm : ∀ k, v.ownBlock = some k → w1.heap[k]? = w.heap[k]?) : IR w1 base v xs := own_move h hm
theorem IR.nil (w : World) (base : Nat) : IR w base (.slice none 0 0) [] := own_nil _ _ _ _
theorem IR.lt {w : World} {base : Nat} {v : Value} {xs : List Int} (h : IR w base v xs) (k : Nat) (hk : v.ownBlock = some k) : base ≤ k ∧ k < w.heap.size := World.ownsRow.lt h k hk

/-! ### the arena in memory -/
/-- What a node's cells lead to: its attributes' row, its inner row. -/
structure NV where
  av : Value
  iv : Value
def nodeCells (nd : Nd) (v : NV) : List Value := [.string nd.name, v.av, .string nd.text, .int .i64 (pz nd.parent), v.iv]
def rowCells : List Nd → List NV → List Value
  | nd :: r, v :: s => nodeCells nd v ++ rowCells r s
  | _, _ => []
structure Rest (w : World) (base : Nat) (m : M) (ev : Value) (vs : List NV) : Prop where
  len : vs.length = m.nodes.length
  els : IR w base ev (zn m.elems)
  inn : ∀ (i : Nat) (nd : Nd) (v : NV), m.nodes[i]? = some nd → vs[i]? = some v → IR w base v.iv (zn nd.inner) ∧ Kd.R k105 105 w base (fun _ => True) v.av nd.attrs
  sep : ∀ (i : Nat) (v : NV), vs[i]? = some v → v.iv.ownBlock = none ∨ v.iv.ownBlock ≠ ev.ownBlock
  sep2 : ∀ (i j : Nat) (v u : NV), i ≠ j → vs[i]? = some v → vs[j]? = some u → v.iv.ownBlock = none ∨ v.iv.ownBlock ≠ u.iv.ownBlock
structure At (w : World) (base g : Nat) (m : M) (nv ev : Value) (vs : List NV) : Prop where
  hg : w.heap[g]? = some (.cells #[nv, ev, .int .i64 (m.copies : Int)] 96 (0, 0))
  hbg : base ≤ g
  row : w.ownsRow base 99 5 nv m.nodes.length (rowCells m.nodes vs)
  rest : Rest w base m ev vs
def Foot (g : Nat) (nv ev : Value) (vs : List NV) (k : Nat) : Prop := k = g ∨ nv.ownBlock = some k ∨ ev.ownBlock = some k ∨ ∃ v ∈ vs, v.iv.ownBlock = some k
/-- An arena at block g; foot: the blocks that it writes. -/
def IsA (w : World) (base g : Nat) (m : M) (foot : Nat → Prop) : Prop := ∃ nv ev vs, At w base g m nv ev vs ∧ ∀ k, Foot g nv ev vs k → foot k

theorem rowCells_length : ∀ {l : List Nd} {s : List NV}, s.length = l.length → (rowCells l s).length = l.length * 5
  | [], [], _ => rfl
  | nd :: r, v :: s, h => by
    rw [rowCells, List.length_append, rowCells_length (by simpa using h)]
    simp only [nodeCells, List.length_cons, List.length_nil]
    omega
  | [], _ :: _, h => by simp at h
  | _ :: _, [], h => by simp at h
theorem rowCells_get : ∀ {l : List Nd} {s : List NV} (i : Nat) (nd : Nd) (v : NV) (j : Nat), s.length = l.length → l[i]? = some nd → s[i]? = some v → j < 5 → (rowCells l s)[i * 5 + j]? = (nodeCells nd v)[j]?
  | [], _, i, _, _, _, _, h, _, _ => by simp at h
  | _ :: _, [], i, _, _, _, hl, _, _, _ => by simp at hl
  | n0 :: r, v0 :: s, 0, nd, v, j, _, h1, h2, hj => by
    obtain rfl : n0 = nd := by simpa using h1
    obtain rfl : v0 = v := by simpa using h2
    rw [rowCells, List.getElem?_append_left (by simp [nodeCells]; omega)]
    simp
  | n0 :: r, v0 :: s, i + 1, nd, v, j, hl, h1, h2, hj => by
    rw [rowCells, List.getElem?_append_right (by simp [nodeCells]; omega)]
    rw [show (i + 1) * 5 + j - (nodeCells n0 v0).length = i * 5 + j by simp [nodeCells]; omega]
    exact rowCells_get i nd v j (by simpa using hl) (by simpa using h1) (by simpa using h2) hj
theorem rowCells_append : ∀ {l : List Nd} {s : List NV} (nd : Nd) (v : NV), s.length = l.length → rowCells (l ++ [nd]) (s ++ [v]) = rowCells l s ++ nodeCells nd v
  | [], [], nd, v, _ => by simp [rowCells]
  | n0 :: r, v0 :: s, nd, v, h => by
    simp only [List.cons_append, rowCells, List.append_assoc]
    rw [rowCells_append nd v (by simpa using h)]
  | [], _ :: _, _, _, h => by simp at h
  | _ :: _, [], _, _, h => by simp at h
theorem rowCells_set : ∀ {l : List Nd} {s : List NV} (i : Nat) (nd nd' : Nd) (v v' : NV) (j : Nat) (u : Value), s.length = l.length → l[i]? = some nd → s[i]? = some v → j < 5 → (nodeCells nd v).set j u = nodeCells nd' v' →
    (rowCells l s).set (i * 5 + j) u = rowCells (l.set i nd') (s.set i v')
  | [], _, i, _, _, _, _, _, _, _, h, _, _, _ => by simp at h
  | _ :: _, [], i, _, _, _, _, _, _, hl, _, _, _, _ => by simp at hl
  | n0 :: r, v0 :: s, 0, nd, nd', v, v', j, u, _, h1, h2, hj, he => by
    obtain rfl : n0 = nd := by simpa using h1
    obtain rfl : v0 = v := by simpa using h2
    simp only [rowCells, List.set_cons_zero]
    rw [List.set_append_left _ _ (by simp [nodeCells]; omega)]
    rw [show 0 * 5 + j = j by omega, he]
  | n0 :: r, v0 :: s, i + 1, nd, nd', v, v', j, u, hl, h1, h2, hj, he => by
    simp only [rowCells, List.set_cons_succ]
    rw [List.set_append_right _ _ (by simp [nodeCells]; omega)]
    rw [show (i + 1) * 5 + j - (nodeCells n0 v0).length = i * 5 + j by simp [nodeCells]; omega]
    rw [rowCells_set i nd nd' v v' j u (by simpa using hl) (by simpa using h1) (by simpa using h2) hj he]
/-- The block of a row of whole numbers, of attributes. -/
def Typed (w : World) (q k : Nat) : Prop := ∃ cells, w.heap[k]? = some (.cells cells q (0, 0))
theorem Typed.ne {w : World} {q q' k k' : Nat} (h : Typed w q k) (h' : Typed w q' k') (hq : q ≠ q') : k ≠ k' := by
  obtain ⟨c, h⟩ := h
  obtain ⟨c', h'⟩ := h'
  exact blk_ne h h' hq
theorem Typed.lt {w : World} {q k : Nat} (h : Typed w q k) : k < w.heap.size := by
  obtain ⟨c, h⟩ := h
  exact blk_lt h
theorem attrs_move {w w1 : World} {base : Nat} {v : Value} {l : List S105} (h : Kd.R k105 105 w base (fun _ => True) v l) (hm : ∀ k, Typed w 105 k → w1.heap[k]? = w.heap[k]?) : Kd.R k105 105 w1 base (fun _ => True) v l := by
  refine Kd.R_mono (Kd.R_move (Kd.R_bound h) (fun k hk => ?_)) (fun _ _ => trivial)
  obtain ⟨_, _, hlt, q, hq, cells, hc⟩ := hk
  have : q = 105 := by simpa [k105, Kd.iso, Kd.pair, Kd.string, Kd.scalar] using hq
  subst this
  exact hm k ⟨cells, hc⟩
section
variable {w w1 : World} {base g : Nat} {m : M} {nv ev : Value} {vs : List NV}
theorem IR.typed {v : Value} {xs : List Int} (h : IR w base v xs) (k : Nat) (hk : v.ownBlock = some k) : Typed w 3 k := own_typed h k hk
theorem Rest.move (h : Rest w base m ev vs) (hm : ∀ k, Typed w 3 k ∨ Typed w 105 k → w1.heap[k]? = w.heap[k]?) : Rest w1 base m ev vs where
  len := h.len
  els := h.els.move fun k hk => hm k (.inl (h.els.typed k hk))
  inn := fun i nd v h1 h2 => by
    obtain ⟨a, b⟩ := h.inn i nd v h1 h2
    exact ⟨a.move fun k hk => hm k (.inl (a.typed k hk)), attrs_move b fun k hk => hm k (.inr hk)⟩
  sep := h.sep
  sep2 := h.sep2
theorem At.lt (h : At w base g m nv ev vs) : g < w.heap.size := (Array.getElem?_eq_some_iff.1 h.hg).1
theorem At.typed_g (h : At w base g m nv ev vs) : Typed w 96 g := ⟨_, h.hg⟩
theorem At.typed_n (h : At w base g m nv ev vs) (k : Nat) (hk : nv.ownBlock = some k) : Typed w 99 k := own_typed h.row k hk
theorem At.foot_lt (h : At w base g m nv ev vs) (k : Nat) (hk : Foot g nv ev vs k) : base ≤ k ∧ k < w.heap.size := by
  rcases hk with rfl | hk | hk | ⟨v, hv, hk⟩
  · exact ⟨h.hbg, h.lt⟩
  · exact World.ownsRow.lt h.row k hk
  · exact h.rest.els.lt k hk
  · obtain ⟨i, hi⟩ := List.getElem?_of_mem hv
    have hil : i < m.nodes.length := by rw [← h.rest.len]; exact (List.getElem?_eq_some_iff.1 hi).1
    exact (h.rest.inn i _ v (List.getElem?_eq_getElem hil) hi).1.lt k hk
theorem At.below (h : At w base g m nv ev vs) (hb : Below w.heap.size w w1) : At w1 base g m nv ev vs where
  hg := blk_below h.hg hb
  hbg := h.hbg
  row := pw_own_below h.row hb
  rest := h.rest.move fun k hk => hb.block k (by rcases hk with hk | hk <;> exact hk.lt)
theorem IsA.below {foot : Nat → Prop} (h : IsA w base g m foot) (hb : Below w.heap.size w w1) : IsA w1 base g m foot := by
  obtain ⟨nv, ev, vs, h1, h2⟩ := h
  exact ⟨nv, ev, vs, h1.below hb, h2⟩
/-- What the arena writes of its own stays where nothing of its foot is touched: another's doing. -/
theorem At.keep (h : At w base g m nv ev vs) {foot : Nat → Prop} (hk : Kp foot w w1) (hf : ∀ k, foot k → ¬ Foot g nv ev vs k ∧ ¬ Typed w 105 k) : At w1 base g m nv ev vs where
  hg := (hk.block g h.lt (fun e => (hf g e).1 (.inl rfl))).trans h.hg
  hbg := h.hbg
  row := own_move h.row fun k hk' => hk.block k (World.ownsRow.lt h.row k hk').2 (fun e => (hf k e).1 (.inr (.inl hk')))
  rest := {
    len := h.rest.len
    els := h.rest.els.move fun k hk' => hk.block k (h.rest.els.lt k hk').2 (fun e => (hf k e).1 (.inr (.inr (.inl hk'))))
    inn := fun i nd v h1 h2 => by
      obtain ⟨a, b⟩ := h.rest.inn i nd v h1 h2
      exact ⟨a.move fun k hk' => hk.block k (a.lt k hk').2 (fun e => (hf k e).1 (.inr (.inr (.inr ⟨v, List.mem_of_getElem? h2, hk'⟩)))), attrs_move b fun k hk' => hk.block k hk'.lt (fun e => (hf k e).2 hk')⟩
    sep := h.rest.sep
    sep2 := h.rest.sep2 }
/-- Another arena at the same block: its foot is the elder one, and what is new. -/
theorem IsA.mk' {foot : Nat → Prop} {m' : M} {nv' ev' : Value} {vs' : List NV} (h : At w1 base g m' nv' ev' vs') (hf : ∀ k, Foot g nv' ev' vs' k → foot k ∨ w.heap.size ≤ k) : IsA w1 base g m' (Gr foot w w1) :=
  ⟨nv', ev', vs', h, fun k hk => by
    rcases hf k hk with e | e
    · exact .inl e
    · exact .inr ⟨e, (h.foot_lt k hk).2⟩⟩
end
theorem ownBlock_nil : (Value.slice none 0 0).ownBlock = none := rfl
/-- A node more. -/
theorem At.add {w w1 : World} {base g : Nat} {m : M} {nv ev nv1 : Value} {vs : List NV} (h : At w base g m nv ev vs) (nd : Nd) (av : Value) (hi : nd.inner = []) (hr : Kd.R k105 105 w base (fun _ => True) av nd.attrs)
    (hk : Kp (fun k => k = g ∨ nv.ownBlock = some k) w w1) (hG : w1.heap[g]? = some (.cells #[nv1, ev, .int .i64 (m.copies : Int)] 96 (0, 0)))
    (hO : w1.ownsRow base 99 5 nv1 (m.nodes.length + 1) (rowCells m.nodes vs ++ nodeCells nd ⟨av, .slice none 0 0⟩)) :
    At w1 base g { m with nodes := m.nodes ++ [nd] } nv1 ev (vs ++ [⟨av, .slice none 0 0⟩]) := by
  have hmv : ∀ k, Typed w 3 k ∨ Typed w 105 k → w1.heap[k]? = w.heap[k]? := fun k hk' => hk.block k (by rcases hk' with e | e <;> exact e.lt) (by
    rintro (rfl | e)
    · rcases hk' with e | e <;> exact e.ne h.typed_g (by decide) rfl
    · rcases hk' with e' | e' <;> exact e'.ne (h.typed_n k e) (by decide) rfl)
  have R := h.rest.move hmv
  refine ⟨hG, h.hbg, ?_, ?_⟩
  · rw [List.length_append, List.length_singleton, rowCells_append _ _ R.len]
    exact hO
  · have hlen := R.len
    refine ⟨by simp [hlen], R.els, fun i nd' v h1 h2 => ?_, fun i v h2 => ?_, fun i j v u hij h1 h2 => ?_⟩
    · by_cases hlt : i < m.nodes.length
      · rw [List.getElem?_append_left hlt] at h1
        rw [List.getElem?_append_left (by omega)] at h2
        exact R.inn i nd' v h1 h2
      · rw [List.getElem?_append_right (by omega)] at h1
        rw [List.getElem?_append_right (by omega)] at h2
        have e0 : i - m.nodes.length = 0 := by
          have := (List.getElem?_eq_some_iff.1 h1).1
          simp at this
          omega
        rw [e0] at h1
        rw [show i - vs.length = 0 by omega] at h2
        obtain rfl : nd = nd' := by simpa using h1
        obtain rfl : (⟨av, .slice none 0 0⟩ : NV) = v := by simpa using h2
        rw [hi]
        exact ⟨IR.nil _ _, attrs_move hr fun k hk' => hmv k (.inr hk')⟩
    · by_cases hlt : i < vs.length
      · rw [List.getElem?_append_left hlt] at h2
        exact R.sep i v h2
      · rw [List.getElem?_append_right (by omega)] at h2
        have e0 : i - vs.length = 0 := by
          have := (List.getElem?_eq_some_iff.1 h2).1
          simp at this
          omega
        rw [e0] at h2
        obtain rfl : (⟨av, .slice none 0 0⟩ : NV) = v := by simpa using h2
        exact .inl rfl
    · by_cases hli : i < vs.length
      · rw [List.getElem?_append_left hli] at h1
        by_cases hlj : j < vs.length
        · rw [List.getElem?_append_left hlj] at h2
          exact R.sep2 i j v u hij h1 h2
        · rw [List.getElem?_append_right (by omega)] at h2
          have e0 : j - vs.length = 0 := by
            have := (List.getElem?_eq_some_iff.1 h2).1
            simp at this
            omega
          rw [e0] at h2
          obtain rfl : (⟨av, .slice none 0 0⟩ : NV) = u := by simpa using h2
          rcases hob : v.iv.ownBlock with _ | k
          · exact .inl rfl
          · exact .inr (by rw [ownBlock_nil]; simp)
      · rw [List.getElem?_append_right (by omega)] at h1
        have e0 : i - vs.length = 0 := by
          have := (List.getElem?_eq_some_iff.1 h1).1
          simp at this
          omega
        rw [e0] at h1
        obtain rfl : (⟨av, .slice none 0 0⟩ : NV) = v := by simpa using h1
        exact .inl rfl
/-- Another row of elements. -/
theorem At.setEls {w w1 : World} {base g : Nat} {m : M} {nv ev ev1 : Value} {vs : List NV} {els1 : List Nat} (h : At w base g m nv ev vs)
    (hk : Kp (fun k => k = g ∨ ev.ownBlock = some k) w w1) (hG : w1.heap[g]? = some (.cells #[nv, ev1, .int .i64 (m.copies : Int)] 96 (0, 0)))
    (hO : IR w1 base ev1 (zn els1)) (ho : ev1.ownBlock = ev.ownBlock ∨ ∀ k, ev1.ownBlock = some k → w.heap.size ≤ k) :
    At w1 base g { m with elems := els1 } nv ev1 vs := by
  have hmv : ∀ k, k < w.heap.size → ¬ Typed w 96 k → ev.ownBlock ≠ some k → w1.heap[k]? = w.heap[k]? := fun k hk' h2 h3 => hk.block k hk' (by
    rintro (rfl | e)
    · exact h2 h.typed_g
    · exact h3 e)
  have hin : ∀ (i : Nat) (nd : Nd) (v : NV), m.nodes[i]? = some nd → vs[i]? = some v → ∀ k, v.iv.ownBlock = some k → ev.ownBlock ≠ some k := fun i nd v h1 h2 k hk' e => by
    rcases h.rest.sep i v h2 with e' | e'
    · rw [e'] at hk'
      cases hk'
    · exact e' (hk'.trans e.symm)
  have nt : ∀ {q k}, Typed w q k → q ≠ 96 → ¬ Typed w 96 k := fun a b c => a.ne c b rfl
  refine ⟨hG, h.hbg, own_move h.row fun k hk' => hmv k (h.typed_n k hk').lt (nt (h.typed_n k hk') (by decide)) (fun e => (h.typed_n k hk').ne (h.rest.els.typed k e) (by decide) rfl), ?_⟩
  refine ⟨h.rest.len, hO, fun i nd v h1 h2 => ?_, fun i v h2 => ?_, h.rest.sep2⟩
  · obtain ⟨a, b⟩ := h.rest.inn i nd v h1 h2
    exact ⟨a.move fun k hk' => hmv k (a.lt k hk').2 (nt (a.typed k hk') (by decide)) (hin i nd v h1 h2 k hk'), attrs_move b fun k hk' => hmv k hk'.lt (nt hk' (by decide)) (fun e => hk'.ne (h.rest.els.typed k e) (by decide) rfl)⟩
  · rcases ho with e | e
    · rw [e]
      exact h.rest.sep i v h2
    · rcases hob : v.iv.ownBlock with _ | k
      · exact .inl rfl
      · refine .inr fun e' => ?_
        have h3 := e k e'.symm
        have hil : i < m.nodes.length := by rw [← h.rest.len]; exact (List.getElem?_eq_some_iff.1 h2).1
        have h4 := ((h.rest.inn i _ v (List.getElem?_eq_getElem hil) h2).1.lt k hob).2
        omega
end Go.Proofs.Ytcdkcnegejhnhaa.Ar
