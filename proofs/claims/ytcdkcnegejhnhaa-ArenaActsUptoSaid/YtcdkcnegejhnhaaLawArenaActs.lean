/-
  Whatever becomes of an arena, what it has, where all stands, and how many copies there are, is as the document says: for every input whose bulk is at most 1048576 (at most 40 acts, otherwise the example alone).
-/
import Derived.Test.YtcdkcnegejhnhaaRows
import Derived.Test.YtcdkcnegejhnhaaOpens
import Derived.Test.YtcdkcnegejhnhaaAaActs
import Derived.WalkKit
import Derived.ProofKit
import Derived.OpenShut
import Derived.ShutString
import Derived.ChangeOld
import Derived.Below
import Derived.SizedLaws
import Derived.HandedShaped
import Derived.JoinedCond
import Derived.Test.YtcdkcnegejhnhaaWSized
namespace Go.Proofs.Ytcdkcnegejhnhaa.AaOpens
open Go.ChangeShapes Go.WideShapes Go.RowKit Go.Proofs.Ytcdkcnegejhnhaa.PAr Go.Proofs.Ytcdkcnegejhnhaa.Aa Go.Proofs.YtcdkcnegejhnhaaW.PrintWords Go.Proofs.YtcdkcnegejhnhaaW.Opens
set_option linter.unusedVariables false
set_option linter.unusedSimpArgs false
theorem one_le {H : Type} (d : DataW H) : 1 ≤ Rows.uptoBulk d := by
  cases d with
  | lit l => cases l <;> simp [Rows.uptoBulk]
  | nil => simp [Rows.uptoBulk]
  | ptr d => simp [Rows.uptoBulk]
  | slice elems spare => simp [Rows.uptoBulk]
  | agg parts => simp [Rows.uptoBulk]
  | iface t d => simp [Rows.uptoBulk]
  | map entries => simp [Rows.uptoBulk]
  | held h => simp [Rows.uptoBulk]
theorem sum_le {α H : Type} {wt : α → Nat} : ∀ (xs : List α) (ys : List (DataW H × List MemPlace)), xs.length = ys.length → (∀ (i : Nat) x y, xs[i]? = some x → ys[i]? = some y → wt x ≤ Rows.uptoBulk y.1) → (xs.map wt).sum ≤ Rows.uptoBulkAll (ys.map (·.1))
  | [], [], _, _ => by simp
  | x :: xs, y :: ys, hl, h => by
    have h0 := h 0 x y rfl rfl
    have h1 := sum_le xs ys (by simpa using hl) (fun i a b ha hb => h (i + 1) a b (by simpa using ha) (by simpa using hb))
    simp only [List.map_cons, List.sum_cons, Rows.uptoBulkAll]
    omega
  | [], _ :: _, hl, _ => by simp at hl
  | _ :: _, [], hl, _ => by simp at hl
theorem le_sum {α : Type} {wt : α → Nat} {x : α} : ∀ {xs : List α}, x ∈ xs → wt x ≤ (xs.map wt).sum
  | y :: ys, h => by
    rw [List.map_cons, List.sum_cons]
    rcases List.mem_cons.1 h with rfl | h
    · omega
    · have := le_sum (wt := wt) h
      omega
section
variable {H : Type} {enc : TypeId × Value → H} {W : World} {base : Nat} {spare : Nat → Bool} {held : Bool}
theorem open_row {α : Type} (d : Kd α) (wt : α → Nat) (Q : α → Prop) {t e : TypeId} {P : Program} (ht : P.underlying t = some (.slice e)) (hce : P.cellsOf e = d.sz) {fuel : Nat}
    (hO : ∀ m cs x, fuel = m + 1 → DataW.trod enc P W base spare held m e cs = some x → ∃ a, d.K W a cs ∧ Q a ∧ wt a ≤ Rows.uptoBulk x.1) {cs : List Value} {x : DataW H × List MemPlace}
    (h : DataW.trod enc P W base spare held fuel t cs = some x) : ∃ A c xs, cs = [.slice A xs.length c] ∧ xs.length ≤ c ∧ Kd.C d W A xs.length xs ∧ (∀ x ∈ xs, Q x) ∧ (xs.map wt).sum + 1 ≤ Rows.uptoBulk x.1 := by
  rcases DataW.trod_slice ht h with ⟨rfl, rfl⟩ | ⟨a, l, c, elems, rest, m, hm, rfl, rfl, _, hl, hmx, hlen, hel, _, _⟩
  · exact ⟨none, 0, [], rfl, Nat.le_refl _, ⟨rfl, by simp, fun hh => by simp at hh⟩, fun x hx => (by cases hx), by simp [Rows.uptoBulk]⟩
  · obtain ⟨xs, hxl, hx⟩ := list_of_each (n := l) (p := fun i x => ∃ c y, W.cells? base (a.add (i * d.sz)) d.sz = some c ∧ d.K W x c ∧ elems[i]? = some y ∧ Q x ∧ wt x ≤ Rows.uptoBulk y.1) fun i hi => by
      have h1 := hel i hi
      rw [List.getElem?_eq_getElem (by omega), Option.bind_eq_some_iff, hce] at h1
      obtain ⟨c, hc, ht⟩ := h1
      obtain ⟨y, hy, hq, hg⟩ := hO m _ _ hm ht
      exact ⟨y, c, _, hc, hy, List.getElem?_eq_getElem (by omega), hq, hg⟩
    subst hxl
    refine ⟨some a, c, xs, rfl, hl, ⟨rfl, by simp only [maxLen] at hmx; omega, fun hh => ⟨a, rfl, fun j p hj => ?_⟩⟩, fun x hxm => ?_, ?_⟩
    · obtain ⟨c, y, hc, hk, _, _⟩ := hx j p hj
      refine ⟨c, d.K_len hk, hk, fun i u hu => ?_⟩
      obtain ⟨_, hcl, hcc⟩ := World.cells?_some hc
      have := hcc i (by rw [← hcl]; exact (List.getElem?_eq_some_iff.1 hu).1)
      rw [hu] at this
      rw [← this, Addr.add_add]
    · obtain ⟨j, hj⟩ := List.getElem?_of_mem hxm
      obtain ⟨c, y, _, _, _, hq, _⟩ := hx j x hj
      exact hq
    · have := sum_le (wt := wt) xs elems hlen.symm fun i x y h1 h2 => by
        obtain ⟨c, y', hc, hk, hy', _, hw⟩ := hx i x h1
        obtain rfl := Option.some.inj (h2.symm.trans hy')
        exact hw
      simp only [Rows.uptoBulk]
      omega
theorem cells106 : Try.prog.cellsOf 106 = k106.sz := by kernel_rfl
theorem cells65 : Try.prog.cellsOf 65 = k65.sz := by kernel_rfl
theorem cells65' : Try.prog.cellsOf 65 = 5 := by kernel_rfl
theorem cells9 : Try.prog.cellsOf 9 = 1 := by kernel_rfl
theorem cells3 : Try.prog.cellsOf 3 = 1 := by kernel_rfl
theorem cells36 : Try.prog.cellsOf 36 = 1 := by kernel_rfl
theorem open_attr {n : Nat} {cs : List Value} {x : DataW H × List MemPlace} (h : DataW.trod enc Try.prog W base spare held n 106 cs = some x) : ∃ a : S106, k106.K W a cs ∧ True ∧ 0 ≤ Rows.uptoBulk x.1 := by
  obtain ⟨a, b, rfl, _, _⟩ := open_two (P := Try.prog) (s0 := 9) (s1 := 9) Try.underlying106 (by kernel_rfl) ⟨rfl, rfl⟩ ⟨rfl, rfl⟩ Try.underlying9 Try.underlying9 cells9 cells9 h
  exact ⟨⟨a, b⟩, k106_mk W ⟨a, b⟩, trivial, Nat.zero_le _⟩
theorem five_of {α : Type} : ∀ l : List α, l.length = 5 → ∃ a b c d e, l = [a, b, c, d, e]
  | [a, b, c, d, e], _ => ⟨a, b, c, d, e, rfl⟩
def Ranged (x : S65) : Prop := (-9223372036854775808 ≤ x.f1 ∧ x.f1 ≤ 9223372036854775807) ∧ (-9223372036854775808 ≤ x.f2 ∧ x.f2 ≤ 9223372036854775807)
theorem open_act {fuel : Nat} {cs : List Value} {x : DataW H × List MemPlace} (h : DataW.trod enc Try.prog W base spare held fuel 65 cs = some x) : ∃ a, k65.K W a cs ∧ Ranged a ∧ a.f3.size ≤ Rows.uptoBulk x.1 := by
  obtain ⟨ys, m, hm, rfl, hl, hys, hf⟩ := DataW.trod_struct Try.underlying65 h
  rw [cells65'] at hl
  match ys, hys with
  | [y0, y1, y2, y3, y4], _ =>
    obtain ⟨v0, v1, v2, v3, v4, rfl⟩ := five_of cs hl
    have e0 := hf 0 { name := "Do", type := 3, offset := 0, embedded := false, tag := "", pkgPath := "", byteOffset := 0 } rfl
    have e1 := hf 1 { name := "A", type := 3, offset := 1, embedded := false, tag := "", pkgPath := "", byteOffset := 8 } rfl
    have e2 := hf 2 { name := "B", type := 3, offset := 2, embedded := false, tag := "", pkgPath := "", byteOffset := 16 } rfl
    have e3 := hf 3 { name := "S", type := 9, offset := 3, embedded := false, tag := "", pkgPath := "", byteOffset := 24 } rfl
    have e4 := hf 4 { name := "Attrs", type := 36, offset := 4, embedded := false, tag := "", pkgPath := "", byteOffset := 40 } rfl
    simp only [cells9, cells36, cells3, List.drop_zero, List.drop_succ_cons, List.take_succ_cons, List.take_zero, List.getElem?_cons_zero, List.getElem?_cons_succ] at e0 e1 e2 e3 e4
    obtain ⟨z0, hz0, _, _⟩ := DataW.trod_int Try.underlying3 e0
    obtain ⟨z1, hz1, _, hw1⟩ := DataW.trod_int Try.underlying3 e1
    obtain ⟨z2, hz2, _, hw2⟩ := DataW.trod_int Try.underlying3 e2
    obtain ⟨nm, hnm, hd3, _⟩ := DataW.trod_string Try.underlying9 e3
    obtain ⟨A4, c4, at_, ha, hla, hCa, _, _⟩ := open_row k106 (fun _ => 0) (fun _ => True) Try.underlying36 cells106 (fun m cs x hm hx => open_attr hx) e4
    obtain rfl : v0 = _ := (List.cons.inj hz0).1
    obtain rfl : v1 = _ := (List.cons.inj hz1).1
    obtain rfl : v2 = _ := (List.cons.inj hz2).1
    obtain rfl : v3 = _ := (List.cons.inj hnm).1
    obtain rfl : v4 = _ := (List.cons.inj ha).1
    refine ⟨⟨z0, z1, z2, nm, at_⟩, ⟨[.int .i64 z0], [.int .i64 z1, .int .i64 z2, .string nm, .slice A4 at_.length c4], rfl, rfl, ⟨[.int .i64 z1], [.int .i64 z2, .string nm, .slice A4 at_.length c4], rfl, rfl, ⟨[.int .i64 z2], [.string nm, .slice A4 at_.length c4], rfl, rfl, ⟨[.string nm], [.slice A4 at_.length c4], rfl, rfl, ⟨A4, c4, rfl, hla, hCa⟩⟩⟩⟩⟩, ⟨?_, ?_⟩, ?_⟩
    · have h := hw1
      simpa [Lit.wf, IntKind.min, IntKind.max, IntKind.signed, IntKind.bits] using h
    · have h := hw2
      simpa [Lit.wf, IntKind.min, IntKind.max, IntKind.signed, IntKind.bits] using h
    · have b3 : nm.size + 1 ≤ Rows.uptoBulk y3.1 := by rw [hd3]; simp [Rows.uptoBulk]
      simp only [List.map_cons, List.map_nil, Rows.uptoBulk, Rows.uptoBulkAll]
      omega
end
end Go.Proofs.Ytcdkcnegejhnhaa.AaOpens
namespace Go.Proofs.Ytcdkcnegejhnhaa.arenaActs
open Go.ChangeShapes Go.WideShapes Go.ChangeAt Go.RowKit
open Go.ChangeMaps (open_string shut_string)
set_option linter.unusedVariables false
set_option linter.unusedSimpArgs false
theorem own : ownKnob Try.prog.godebug = none := by kernel_rfl
theorem laidOut : laidOutB Try.prog = true := by kernel_rfl
set_option maxRecDepth 100000 in
theorem lifted (os : Os) (started : os.Started) (H : Type) (enc : TypeId × Value → H) (F : Stop.Interp) :
    ReturnsInHanded {} Try.checked os 7 .any ((Rows.OpenSpec.upto Rows.arenaActsSpec).pre6 enc Try.prog Try.f7 Rows.arenaActsUptoRow.domain false) (((Rows.OpenSpec.upto Rows.arenaActsSpec).at F).post enc Try.prog Try.f7 false true false false) := by
  refine returnsInHanded_of_cond (C := Try.checked) (s := Rows.OpenSpec.upto Rows.arenaActsSpec) (k := Rows.uptoSmall) rfl own started (by kernel_rfl) Try.func7
    (OpenSpec.witness (enc := enc) (C := Try.checked) (s := Rows.OpenSpec.upto Rows.arenaActsSpec) (k := Rows.uptoSmall) rfl false ⟨#[], #[.slice none 0 0], []⟩ 8 (by kernel_rfl) (by kernel_rfl) (by kernel_rfl)
      (x := ([.nil], [], [])) (by kernel_rfl) rfl (by kernel_rfl)) ?_
  intro W base args ds gs before hval0 hW _ hk _
  have hval : ∀ (j : Nat) t v, Try.f7.params[j]? = some t → args[j]? = some v → Value.okWide Try.prog W .any base t v := hval0
  have hW' := hW
  obtain ⟨p, q, hA0, hV, rfl, hfz, hnd⟩ := hW
  have hA : DataW.TrodAll enc Try.prog W 0 (fun _ => true) true Try.f7.params.toList args.toList ds p := hA0
  rw [Try.params7] at hA hval
  obtain ⟨v0, vs0, d0, ds0, p0, q0, hargs, rfl, rfl, h0, r0⟩ := trodAll_cons hA
  obtain ⟨rfl, rfl, rfl⟩ := trodAll_nil r0
  obtain rfl : args = #[v0] := by cases args; simp_all
  obtain ⟨rfl, rfl⟩ := trodVars_none hV
  have hbulk : Rows.uptoBulk d0 ≤ 1048576 := by have h_ := of_decide_eq_true hk; simp only [Rows.uptoBulkAll, List.append_nil, List.cons_append, List.nil_append] at h_; omega
  have k0 := h0
  have lt0 : ∀ x ∈ p0, x.block < W.heap.size := by obtain ⟨m, hm⟩ := k0; exact DataW.trod_lt m _ _ _ hm
  obtain ⟨A0, c0, l0, rfl, hc0, hC0, hQ0, hb0⟩ : ∃ A c l, v0 = .slice A l.length c ∧ l.length ≤ c ∧ Go.Proofs.YtcdkcnegejhnhaaW.PrintWords.Kd.C Aa.k65 W A l.length l ∧ (∀ x ∈ l, AaOpens.Ranged x) ∧ (l.map fun x => x.f3.size).sum + 1 ≤ Rows.uptoBulk d0 := by
    obtain ⟨fuel, hf⟩ := h0
    obtain ⟨A, c, l, e, hc, hC, hQ, hb⟩ := AaOpens.open_row Aa.k65 (fun x => x.f3.size) AaOpens.Ranged Try.underlying58 AaOpens.cells65 (fun m cs x hm hx => AaOpens.open_act hx) hf
    obtain ⟨a, n, m, rfl⟩ := okWide_slice Try.underlying58 (hval 0 58 v0 rfl rfl)
    simp [Value.cells] at e
    obtain ⟨rfl, rfl, rfl⟩ := e
    exact ⟨_, _, l, rfl, hc, hC, hQ, hb⟩
  clear hA0 hval0
  refine (Aa.acts12_calls A0 c0 l0 W hC0 (fun x hx => ⟨(hQ0 x hx).1, (hQ0 x hx).2, by have := AaOpens.le_sum (wt := fun x : Aa.S65 => x.f3.size) hx; omega⟩)).mono fun e W' ⟨he, bel⟩ => ?_
  subst he
  exact ⟨_, rfl, _, _, _, [], _, [], hW', trodAll_mk1 (shut_bool Try.underlying4 _), (trodAll_cons_mk (Below.trod laidOut (by kernel_rfl) (of_decide_eq_true (by kernel_rfl)) k0 bel lt0) trodAll_mk0), rfl, bel.frame _, fun h => by cases h⟩
theorem proved : Rows.ArenaActsUptoSaid :=
  OpenClaim.holds_of_cond 7 Try.f7 rfl rfl rfl rfl rfl rfl rfl ⟨rfl, rfl, rfl, rfl, rfl⟩ rfl rfl rfl rfl rfl (by kernel_rfl) Try.func7 (by kernel_rfl)
    (of_decide_eq_true (by kernel_rfl)) (by unfold Func.isWrapper; first | (rw [if_pos (by decide +kernel)]; kernel_rfl) | (rw [if_neg (by decide +kernel)]; exact ⟨rfl, rfl⟩))
    (fun os started H enc _ F => lifted os started H enc F)
#print axioms proved
end Go.Proofs.Ytcdkcnegejhnhaa.arenaActs
namespace Go.Proofs.Ytcdkcnegejhnhaa
/-- The row, under a short name, for the claim. -/
theorem arenaActs_holds : Rows.ArenaActsUptoSaid := arenaActs.proved
end Go.Proofs.Ytcdkcnegejhnhaa
