/-
  ArenaActs: the document's arena while it is being changed: a box with its rows, two of them the call's own.
-/
import Derived.Test.YtcdkcnegejhnhaaAaRow
namespace Go.Proofs.Ytcdkcnegejhnhaa.Aa
open Go.RowKit Go.Proofs.Ytcdkcnegejhnhaa.PAr Go.Proofs.YtcdkcnegejhnhaaW.PrintWords Go.Proofs.YtcdkcnegejhnhaaW.PrintLast Go.Proofs.YtcdkcnegejhnhaaW.PrintMore
set_option linter.unusedVariables false
set_option linter.unusedSimpArgs false
/-- What the rows of the box may lead to: what they led to ahead of the call, and blocks that are new, but not the two boxes. -/
def Ok (ok : Nat → Prop) (W0 : World) (k : Nat) : Prop := (ok k ∧ k < W0.heap.size) ∨ W0.heap.size + 2 ≤ k
theorem slice_openF {α : Type} {d : Kd α} {e : Nat} {W : World} {ok : Nat → Prop} {xs : List α} {cs : List Value} (h : Kd.FK (Kd.slice e d) W ok xs cs) : ∃ A c, cs = [.slice A xs.length c] ∧ xs.length ≤ c ∧ Kd.F d W ok A xs.length xs := by
  obtain ⟨A, c, rfl, l1, g1⟩ := Kd.FK_now h
  refine ⟨A, c, rfl, l1, fun W' hW => ?_⟩
  obtain ⟨A', c', he, _, g'⟩ := h W' hW
  injection (Option.some.inj (show some (Value.slice A xs.length c) = some (Value.slice A' xs.length c') from congrArg (fun l => l[0]?) he)) with ha _ _
  rw [ha]
  exact g'
theorem slice_mkF {α : Type} {d : Kd α} {e : Nat} {W : World} {ok : Nat → Prop} {xs : List α} {A : Option Addr} {c : Nat} (hl : xs.length ≤ c) (h : Kd.F d W ok A xs.length xs) : Kd.FK (Kd.slice e d) W ok xs [.slice A xs.length c] :=
  Foot.imp h fun W' hC => ⟨A, c, rfl, hl, hC⟩
theorem N_tight {w : World} {base : Nat} {ok : Nat → Prop} {v : Value} {xs : List Int} (h : Kd.N (Kd.int .i64) 3 w base ok v xs) : Kd.N (Kd.int .i64) 3 w base (fun k => v.ownBlock = some k ∧ ok k) v xs := by
  obtain ⟨h0, rows, hl, hR, hf⟩ := h
  exact ⟨fun k hk => ⟨hk, h0 k hk⟩, rows, hl, hR, fun j x c hx hc W' _ => show (Kd.int .i64).K W' x c from (show (Kd.int .i64).K w x c from Kd.FK_now (hf j x c hx hc))⟩
theorem own_after {w : World} {e : Nat} {v : Value} (h : v.ownBlock = (Value.slice (some ⟨w.heap.size, 0, none⟩) 0 0).ownBlock ∨ ∃ b, v.ownBlock = some b ∧ (w.alloc (.cells #[] e)).heap.size ≤ b) : ∀ k, v.ownBlock = some k → w.heap.size ≤ k := by
  intro k hk
  rcases h with h | ⟨b, h, hb⟩
  · have : some w.heap.size = some k := h.symm.trans hk
    injection this with this
    omega
  · have : some b = some k := h.symm.trans hk
    injection this with this
    rw [World.size_alloc] at hb
    omega
theorem N_after_lit {α : Type} {d : Kd α} {e e' base : Nat} {w wa : World} {ok : Nat → Prop} {v : Value} {xs : List α} (h : Kd.N d e w base ok v xs) (hga : (w.alloc (.cells #[] e')).grownBy wa (Value.slice (some ⟨w.heap.size, 0, none⟩) 0 0).ownBlock) : Kd.N d e wa base (fun k => ok k ∧ k < w.heap.size) v xs :=
  Kd.N_step (Kd.N_bound h) fun k hk _ => (hga.block k (by rw [World.size_alloc]; have := hk.2; omega) (fun e => by
    have : some k = some w.heap.size := e
    injection this with this
    have := hk.2
    omega)).trans (Below.heap_alloc w _ k hk.2)
structure Mid (W0 w : World) (ok : Nat → Prop) (u0 u1 vi vp : Value) (cp : Int) (inner : List (List S115)) (par : List Int) : Prop where
  bel : Below W0.heap.size W0 w
  box : w.heap[W0.heap.size]? = some (.cells #[u0, u1, vi, vp, .int .i64 cp] 62 (0, 0))
  res : w.heap[W0.heap.size + 1]? = some (.cells #[.slice none 0 0, .slice none 0 0, .slice none 0 0, .slice none 0 0, .int .i64 0] 62 (0, 0))
  ni : Kd.N (Kd.slice 115 k115) 112 w W0.heap.size (fun k => Ok ok W0 k ∧ vp.ownBlock ≠ some k) vi inner
  np : Kd.N (Kd.int .i64) 3 w W0.heap.size (fun k => vp.ownBlock = some k ∧ W0.heap.size + 2 ≤ k) vp par
section
variable {W0 w w1 : World} {ok : Nat → Prop} {u0 u1 vi vp : Value} {cp : Int} {inner : List (List S115)} {par : List Int}
theorem Mid.below (h : Mid W0 w ok u0 u1 vi vp cp inner par) (hb : Below w.heap.size w w1) : Mid W0 w1 ok u0 u1 vi vp cp inner par where
  bel := h.bel.trans (hb.mono h.bel.size)
  box := blk_below h.box hb
  res := blk_below h.res hb
  ni := Kd.N_below h.ni hb
  np := Kd.N_below h.np hb
theorem Mid.lt (h : Mid W0 w ok u0 u1 vi vp cp inner par) : W0.heap.size + 2 ≤ w.heap.size := blk_lt h.res
/-- A row of inner items is replaced. -/
theorem Mid.setInner (h : Mid W0 w ok u0 u1 vi vp cp inner par) {g n c : Nat} (hv : vi = .slice (some ⟨g, 0, none⟩) n c) {j : Nat} (hj : j < n) {A : Option Addr} {c' : Nat} {xs : List S115} {okx : Nat → Prop} (hl : xs.length ≤ c') (hF : Kd.F k115 w okx A xs.length xs)
    (hok : ∀ k, okx k → Ok ok W0 k ∧ vp.ownBlock ≠ some k ∧ k ≠ g) : Mid W0 (w.setCell ⟨g, j, none⟩ (.slice A xs.length c')) ok u0 u1 vi vp cp (inner.set j xs) par := by
  subst hv
  have hg : Ok ok W0 g ∧ vp.ownBlock ≠ some g := h.ni.1 g rfl
  have hgb := Kd.N_base h.ni g rfl
  have hg2 : W0.heap.size + 2 ≤ g := by
    rcases hg.1 with ⟨_, e⟩ | e
    · omega
    · exact e
  obtain ⟨c0, hcl, hK, hcc, _⟩ := Kd.N_elem h.ni ([] : List S115) (j : Int) (by omega) (by omega)
  rw [Int.toNat_natCast] at hcc
  have hseg := (Kd.N_seg h.ni (j : Int) (by omega) (by omega) (c := c0) (seg := [.slice A xs.length c']) (j := 0) hcl (fun i u hu => by rw [Int.toNat_natCast]; exact hcc i u hu) (show 0 + 1 ≤ 1 by decide) (x' := xs) (okp := okx) (by
    have hc1 : c0.length = 1 := hcl
    match c0, hc1 with
    | [_], _ => exact slice_mkF hl hF) (fun k hk => ⟨⟨(hok k hk).1, (hok k hk).2.1⟩, (hok k hk).2.2⟩)).1
  rw [Int.toNat_natCast] at hseg
  have e1 : w.setCells g (j * (Kd.slice 115 k115).sz + 0) [.slice A xs.length c'] = w.setCell ⟨g, j, none⟩ (.slice A xs.length c') := by
    show w.setCells g (j * 1 + 0) _ = _
    rw [Nat.mul_one, Nat.add_zero]
    rfl
  rw [e1] at hseg
  exact {
    bel := h.bel.setCell (p := ⟨g, j, none⟩) (by show W0.heap.size ≤ g; omega) _
    box := (Below.heap_setCell w _ _ _ (by show W0.heap.size ≠ g; omega)).trans h.box
    res := (Below.heap_setCell w _ _ _ (by show W0.heap.size + 1 ≠ g; omega)).trans h.res
    ni := hseg
    np := Kd.N_step h.np fun k hk hlt => Below.heap_setCell w _ _ _ (fun e => hg.2 (hk.1.trans (congrArg some e))) }
/-- A number of where something stands is replaced. -/
theorem Mid.setPar (h : Mid W0 w ok u0 u1 vi vp cp inner par) {g n c : Nat} (hv : vp = .slice (some ⟨g, 0, none⟩) n c) {j : Nat} (hj : j < n) (x : Int) : Mid W0 (w.setCell ⟨g, j, none⟩ (.int .i64 x)) ok u0 u1 vi vp cp inner (par.set j x) := by
  subst hv
  have hg := h.np.1 g rfl
  obtain ⟨c0, hcl, hK, hcc, _⟩ := Kd.N_elem h.np (0 : Int) (j : Int) (by omega) (by omega)
  rw [Int.toNat_natCast] at hcc
  have hseg := (Kd.N_seg h.np (j : Int) (by omega) (by omega) (c := c0) (seg := [.int .i64 x]) (j := 0) hcl (fun i u hu => by rw [Int.toNat_natCast]; exact hcc i u hu) (show 0 + 1 ≤ 1 by decide) (x' := x) (okp := fun _ => False) (by
    have hc1 : c0.length = 1 := hcl
    match c0, hc1 with
    | [_], _ => exact fun _ _ => rfl) (fun _ hk => hk.elim)).1
  rw [Int.toNat_natCast] at hseg
  have e1 : w.setCells g (j * (Kd.int .i64).sz + 0) [.int .i64 x] = w.setCell ⟨g, j, none⟩ (.int .i64 x) := by
    show w.setCells g (j * 1 + 0) _ = _
    rw [Nat.mul_one, Nat.add_zero]
    rfl
  rw [e1] at hseg
  exact {
    bel := h.bel.setCell (p := ⟨g, j, none⟩) (by show W0.heap.size ≤ g; have := hg.2; omega) _
    box := (Below.heap_setCell w _ _ _ (by show W0.heap.size ≠ g; have := hg.2; omega)).trans h.box
    res := (Below.heap_setCell w _ _ _ (by show W0.heap.size + 1 ≠ g; have := hg.2; omega)).trans h.res
    ni := Kd.N_step h.ni fun k hk _ => Below.heap_setCell w _ _ _ (fun e => hk.2 (by rw [e]; rfl))
    np := hseg }
/-- An inner row of items: where it lies, its cell. -/
theorem Mid.at_inner (h : Mid W0 w ok u0 u1 vi vp cp inner par) {g n c : Nat} (hv : vi = .slice (some ⟨g, 0, none⟩) n c) {j : Nat} (hj : j < n) {xs : List S115} (hx : inner[j]? = some xs) :
    ∃ A c', w.cell? ⟨g, j, none⟩ = some (.slice A xs.length c') ∧ w.frozen? ⟨g, j, none⟩ = false ∧ xs.length ≤ c' ∧ Kd.F k115 w (fun k => (Ok ok W0 k ∧ vp.ownBlock ≠ some k) ∧ k ≠ g) A xs.length xs := by
  subst hv
  obtain ⟨c0, hcl, hK, hcc, hfr⟩ := Kd.N_elem h.ni ([] : List S115) (j : Int) (by omega) (by omega)
  rw [Int.toNat_natCast] at hK hcc hfr
  rw [List.getD_eq_getElem?_getD, hx, Option.getD_some] at hK
  obtain ⟨A, c', rfl, hl, hF⟩ := slice_openF hK
  have h1 := hcc 0 _ rfl
  have h2 := hfr 0
  rw [show j * (Kd.slice 115 k115).sz + 0 = j from Nat.mul_one j] at h1 h2
  exact ⟨A, c', h1, h2, hl, hF⟩
theorem Mid.at_par (h : Mid W0 w ok u0 u1 vi vp cp inner par) {g n c : Nat} (hv : vp = .slice (some ⟨g, 0, none⟩) n c) {j : Nat} (hj : j < n) {x : Int} (hx : par[j]? = some x) :
    w.cell? ⟨g, j, none⟩ = some (.int .i64 x) ∧ w.frozen? ⟨g, j, none⟩ = false := by
  subst hv
  obtain ⟨c0, hcl, hK, hcc, hfr⟩ := Kd.N_elem h.np (0 : Int) (j : Int) (by omega) (by omega)
  rw [Int.toNat_natCast] at hK hcc hfr
  rw [List.getD_eq_getElem?_getD, hx, Option.getD_some] at hK
  have hk0 : c0 = [.int .i64 x] := Kd.FK_now hK
  subst hk0
  have h1 := hcc 0 _ rfl
  have h2 := hfr 0
  rw [show j * (Kd.int .i64).sz + 0 = j from Nat.mul_one j] at h1 h2
  exact ⟨h1, h2⟩
/-- The changed arena's rows. -/
theorem Mid.rows (h : Mid W0 w ok u0 u1 vi vp cp inner par) {names : List ByteArray} {attrs : List (List S106)} (r0 : RowF Kd.string W0 (fun k => ok k ∧ k < W0.heap.size) u0 names) (r1 : RowF (Kd.slice 106 k106) W0 (fun k => ok k ∧ k < W0.heap.size) u1 attrs) :
    RA w (fun k => ok k ∨ W0.heap.size ≤ k) u0 u1 vi vp ⟨names, attrs, inner, par, cp⟩ where
  r0 := (r0.step fun k hk _ => h.bel.block k hk.2).mono fun k hk => .inl hk.1
  r1 := (r1.step fun k hk _ => h.bel.block k hk.2).mono fun k hk => .inl hk.1
  r2 := (RowF.of_N h.ni).mono fun k hk => hk.1.elim (fun e => .inl e.1) (fun e => .inr (by omega))
  r3 := (RowF.of_N h.np).mono fun k hk => .inr (by have := hk.2; omega)
end
end Go.Proofs.Ytcdkcnegejhnhaa.Aa
