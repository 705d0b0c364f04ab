/-
  Arguments that are trees of nodes, opened: what a reading of them tells of the cells, and how much they are.
-/
import Derived.Test.YtcdkcnegejhnhaaRows
import Derived.Test.YtcdkcnegejhnhaaOpens
import Derived.Test.YtcdkcnegejhnhaaArPut
namespace Go.Proofs.Ytcdkcnegejhnhaa.PAr
open Go.ChangeShapes Go.WideShapes Go.RowKit Go.Proofs.YtcdkcnegejhnhaaW.PrintWords Go.Proofs.YtcdkcnegejhnhaaW.Opens
set_option linter.unusedVariables false
set_option linter.unusedSimpArgs false
mutual
def vL : List S38 → Nat
  | [] => 0
  | x :: r => vN x + vL r
def vN : S38 → Nat
  | ⟨n, a, t, i⟩ => n.size + t.size + a.length + vL i + 1
end
mutual
theorem w_vL : ∀ l : List S38, wL l ≤ vL l
  | [] => by simp [wL, vL]
  | x :: r => by have := w_vL r; have := w_vN x; simp only [wL, vL]; omega
theorem w_vN : ∀ x : S38, wN x ≤ vN x
  | ⟨_, a, _, i⟩ => by have := w_vL i; simp only [wN, vN]; omega
end
theorem vL_sum : ∀ l : List S38, (l.map vN).sum = vL l
  | [] => rfl
  | x :: r => by simp only [List.map_cons, List.sum_cons, vL, vL_sum r]
theorem one_le {H : Type} (d : DataW H) : 1 ≤ Rows.uptoBulk d := by
  cases d with
  | lit l => cases l <;> simp [Rows.uptoBulk]
  | nil => simp [Rows.uptoBulk]
  | ptr d => simp [Rows.uptoBulk]
  | slice elems spare => simp [Rows.uptoBulk]
  | agg parts => simp [Rows.uptoBulk]
  | iface t d => simp [Rows.uptoBulk]
  | map entries => simp [Rows.uptoBulk]
  | held h => simp [Rows.uptoBulk]
theorem sum_le {α H : Type} {wt : α → Nat} : ∀ (xs : List α) (ys : List (DataW H × List MemPlace)), xs.length = ys.length → (∀ (i : Nat) x y, xs[i]? = some x → ys[i]? = some y → wt x ≤ Rows.uptoBulk y.1) → (xs.map wt).sum ≤ Rows.uptoBulkAll (ys.map (·.1))
  | [], [], _, _ => by simp
  | x :: xs, y :: ys, hl, h => by
    have h0 := h 0 x y rfl rfl
    have h1 := sum_le xs ys (by simpa using hl) (fun i a b ha hb => h (i + 1) a b (by simpa using ha) (by simpa using hb))
    simp only [List.map_cons, List.sum_cons, Rows.uptoBulkAll]
    omega
  | [], _ :: _, hl, _ => by simp at hl
  | _ :: _, [], hl, _ => by simp at hl
section
variable {H : Type} {enc : TypeId × Value → H} {W : World} {base : Nat} {spare : Nat → Bool} {held : Bool}
theorem open_row {α : Type} (d : Kd α) {t e n : TypeId} {P : Program} (wt : α → Nat) (ht : P.underlying t = some (.slice e)) (hce : P.cellsOf e = d.sz) {fuel : Nat}
    (hO : ∀ m cs x, fuel = m + 1 → DataW.trod enc P W base spare held m e cs = some x → ∃ a, d.K W a cs ∧ wt a ≤ Rows.uptoBulk x.1) {cs : List Value} {x : DataW H × List MemPlace}
    (h : DataW.trod enc P W base spare held fuel t cs = some x) : ∃ A c xs, cs = [.slice A xs.length c] ∧ xs.length ≤ c ∧ Kd.C d W A xs.length xs ∧ (xs.map wt).sum + 1 ≤ Rows.uptoBulk x.1 := by
  rcases DataW.trod_slice ht h with ⟨rfl, rfl⟩ | ⟨a, l, c, elems, rest, m, hm, rfl, rfl, _, hl, hmx, hlen, hel, _, _⟩
  · exact ⟨none, 0, [], rfl, Nat.le_refl _, ⟨rfl, by simp, fun hh => by simp at hh⟩, by simp [Rows.uptoBulk]⟩
  · obtain ⟨xs, hxl, hx⟩ := list_of_each (n := l) (p := fun i x => ∃ c y, W.cells? base (a.add (i * d.sz)) d.sz = some c ∧ d.K W x c ∧ elems[i]? = some y ∧ wt x ≤ Rows.uptoBulk y.1) fun i hi => by
      have h1 := hel i hi
      rw [List.getElem?_eq_getElem (by omega), Option.bind_eq_some_iff, hce] at h1
      obtain ⟨c, hc, ht⟩ := h1
      obtain ⟨y, hy, hg⟩ := hO m _ _ hm ht
      exact ⟨y, c, _, hc, hy, List.getElem?_eq_getElem (by omega), hg⟩
    subst hxl
    refine ⟨some a, c, xs, rfl, hl, ⟨rfl, by simp only [maxLen] at hmx; omega, fun hh => ⟨a, rfl, fun j p hj => ?_⟩⟩, ?_⟩
    · obtain ⟨c, y, hc, hk, _, _⟩ := hx j p hj
      refine ⟨c, d.K_len hk, hk, fun i u hu => ?_⟩
      obtain ⟨_, hcl, hcc⟩ := World.cells?_some hc
      have := hcc i (by rw [← hcl]; exact (List.getElem?_eq_some_iff.1 hu).1)
      rw [hu] at this
      rw [← this, Addr.add_add]
    · have := sum_le (wt := wt) xs elems hlen.symm fun i x y h1 h2 => by
        obtain ⟨c, y', hc, hk, hy', hw⟩ := hx i x h1
        obtain rfl := Option.some.inj (h2.symm.trans hy')
        exact hw
      simp only [Rows.uptoBulk]
      omega
theorem cells106 : Try.prog.cellsOf 106 = k106.sz := by kernel_rfl
theorem cells38 : Try.prog.cellsOf 38 = k38.sz := by kernel_rfl
theorem cells38' : Try.prog.cellsOf 38 = 4 := by kernel_rfl
theorem cells9 : Try.prog.cellsOf 9 = 1 := by kernel_rfl
theorem cells22 : Try.prog.cellsOf 22 = 1 := by kernel_rfl
theorem cells36 : Try.prog.cellsOf 36 = 1 := by kernel_rfl
theorem open_attr {n : Nat} {cs : List Value} {x : DataW H × List MemPlace} (h : DataW.trod enc Try.prog W base spare held n 106 cs = some x) : ∃ a : S106, k106.K W a cs ∧ 1 ≤ Rows.uptoBulk x.1 := by
  obtain ⟨a, b, rfl, _, _⟩ := open_two (P := Try.prog) (s0 := 9) (s1 := 9) Try.underlying106 (by kernel_rfl) ⟨rfl, rfl⟩ ⟨rfl, rfl⟩ Try.underlying9 Try.underlying9 cells9 cells9 h
  exact ⟨⟨a, b⟩, k106_mk W ⟨a, b⟩, one_le _⟩
theorem sum_one {α : Type} (l : List α) : (l.map fun _ => 1).sum = l.length := by
  induction l with
  | nil => rfl
  | cons x r ih => simp only [List.map_cons, List.sum_cons, ih, List.length_cons]; omega
set_option maxRecDepth 20000 in
theorem open_nodes : ∀ fuel : Nat, (∀ (cs : List Value) (x : DataW H × List MemPlace), DataW.trod enc Try.prog W base spare held fuel 22 cs = some x → ∃ A c xs, cs = [.slice A xs.length c] ∧ xs.length ≤ c ∧ Kd.C k38 W A xs.length xs ∧ vL xs + 1 ≤ Rows.uptoBulk x.1) ∧
    (∀ (cs : List Value) (x : DataW H × List MemPlace), DataW.trod enc Try.prog W base spare held fuel 38 cs = some x → ∃ a, k38.K W a cs ∧ vN a ≤ Rows.uptoBulk x.1) := by
  intro fuel
  induction fuel with
  | zero => exact ⟨fun cs x h => by simp [DataW.trod] at h, fun cs x h => by simp [DataW.trod] at h⟩
  | succ n ih =>
    refine ⟨fun cs x h => ?_, fun cs x h => ?_⟩
    · obtain ⟨A, c, xs, h1, h2, h3, h4⟩ := open_row k38 (n := 0) vN Try.underlying22 cells38 (fun m cs x hm hx => by
        obtain rfl := Nat.succ.inj hm
        exact ih.2 cs x hx) h
      rw [vL_sum] at h4
      exact ⟨A, c, xs, h1, h2, h3, h4⟩
    · obtain ⟨ys, m, hm, rfl, hl, hys, hf⟩ := DataW.trod_struct Try.underlying38 h
      obtain rfl := Nat.succ.inj hm
      rw [cells38'] at hl
      match ys, hys with
      | [y0, y1, y2, y3], _ =>
        match cs, hl with
        | [v0, v1, v2, v3], _ =>
          have e0 := hf 0 _ rfl
          have e1 := hf 1 _ rfl
          have e2 := hf 2 _ rfl
          have e3 := hf 3 _ rfl
          simp only [cells9, cells36, cells22, List.drop_zero, List.drop_succ_cons, List.take_succ_cons, List.take_zero, List.getElem?_cons_zero, List.getElem?_cons_succ] at e0 e1 e2 e3
          obtain ⟨nm, hnm, hd0, _⟩ := DataW.trod_string Try.underlying9 e0
          obtain ⟨tx, htx, hd2, _⟩ := DataW.trod_string Try.underlying9 e2
          obtain ⟨A1, c1, at_, ha, hla, hCa, hba⟩ := open_row k106 (n := 0) (fun _ => 1) Try.underlying36 cells106 (fun m cs x hm hx => open_attr hx) e1
          obtain ⟨A3, c3, inn, hi, hli, hCi, hbi⟩ := ih.1 _ _ e3
          obtain rfl : v0 = _ := (List.cons.inj hnm).1
          obtain rfl : v1 = _ := (List.cons.inj ha).1
          obtain rfl : v2 = _ := (List.cons.inj htx).1
          obtain rfl : v3 = _ := (List.cons.inj hi).1
          rw [sum_one] at hba
          refine ⟨⟨nm, at_, tx, inn⟩, k38_mk W (⟨nm, at_, tx, inn⟩ : S38) hla hCa hli hCi, ?_⟩
          have b0 : nm.size + 1 ≤ Rows.uptoBulk y0.1 := by rw [hd0]; simp [Rows.uptoBulk]
          have b2 : tx.size + 1 ≤ Rows.uptoBulk y2.1 := by rw [hd2]; simp [Rows.uptoBulk]
          simp only [List.map_cons, List.map_nil, Rows.uptoBulk, Rows.uptoBulkAll, vN]
          omega
end
mutual
theorem t_vL : ∀ l : List S38, Ar.tL l ≤ vL l
  | [] => by simp [Ar.tL, vL]
  | x :: r => by have := t_vL r; have := t_vN x; simp only [Ar.tL, vL]; omega
theorem t_vN : ∀ x : S38, Ar.tN x ≤ vN x
  | ⟨_, a, _, i⟩ => by have := t_vL i; simp only [Ar.tN, vN]; omega
end
end Go.Proofs.Ytcdkcnegejhnhaa.PAr
