/-
  Whatever becomes of a list, what it has, and what it answers, is as the document says: for every input (at most 40 acts, otherwise the example alone).
-/
import Derived.Test.YtcdkcnegejhnhaaRows
import Derived.Test.YtcdkcnegejhnhaaOpens
import Derived.Test.YtcdkcnegejhnhaaActsWalk
import Derived.WalkKit
import Derived.ProofKit
import Derived.OpenShut
import Derived.ShutString
import Derived.ChangeOld
import Derived.Below
import Derived.SizedLaws
import Derived.Test.YtcdkcnegejhnhaaWSized
namespace Go.Proofs.Ytcdkcnegejhnhaa.AcOpens
open Go.ChangeShapes Go.WideShapes Go.RowKit Go.Proofs.Ytcdkcnegejhnhaa.PAr Go.Proofs.Ytcdkcnegejhnhaa.Ar Go.Proofs.YtcdkcnegejhnhaaW.PrintWords Go.Proofs.YtcdkcnegejhnhaaW.Opens
set_option linter.unusedVariables false
set_option linter.unusedSimpArgs false
section
variable {H : Type} {enc : TypeId × Value → H} {W : World} {base : Nat} {spare : Nat → Bool} {held : Bool}
theorem open_row {α : Type} (d : Kd α) {t e : TypeId} {P : Program} (ht : P.underlying t = some (.slice e)) (hce : P.cellsOf e = d.sz) {fuel : Nat}
    (hO : ∀ m cs x, fuel = m + 1 → DataW.trod enc P W base spare held m e cs = some x → ∃ a, d.K W a cs) {cs : List Value} {x : DataW H × List MemPlace}
    (h : DataW.trod enc P W base spare held fuel t cs = some x) : ∃ A c xs, cs = [.slice A xs.length c] ∧ xs.length ≤ c ∧ Kd.C d W A xs.length xs := by
  rcases DataW.trod_slice ht h with ⟨rfl, rfl⟩ | ⟨a, l, c, elems, rest, m, hm, rfl, rfl, _, hl, hmx, hlen, hel, _, _⟩
  · exact ⟨none, 0, [], rfl, Nat.le_refl _, ⟨rfl, by simp, fun hh => by simp at hh⟩⟩
  · obtain ⟨xs, hxl, hx⟩ := list_of_each (n := l) (p := fun i x => ∃ c, W.cells? base (a.add (i * d.sz)) d.sz = some c ∧ d.K W x c) fun i hi => by
      have h1 := hel i hi
      rw [List.getElem?_eq_getElem (by omega), Option.bind_eq_some_iff, hce] at h1
      obtain ⟨c, hc, ht⟩ := h1
      obtain ⟨y, hy⟩ := hO m _ _ hm ht
      exact ⟨y, c, hc, hy⟩
    subst hxl
    refine ⟨some a, c, xs, rfl, hl, ⟨rfl, by simp only [maxLen] at hmx; omega, fun hh => ⟨a, rfl, fun j p hj => ?_⟩⟩⟩
    obtain ⟨c, hc, hk⟩ := hx j p hj
    refine ⟨c, d.K_len hk, hk, fun i u hu => ?_⟩
    obtain ⟨_, hcl, hcc⟩ := World.cells?_some hc
    have := hcc i (by rw [← hcl]; exact (List.getElem?_eq_some_iff.1 hu).1)
    rw [hu] at this
    rw [← this, Addr.add_add]
theorem cells106 : Try.prog.cellsOf 106 = k106.sz := by kernel_rfl
theorem cells86 : Try.prog.cellsOf 86 = k86.sz := by kernel_rfl
theorem cells86' : Try.prog.cellsOf 86 = 4 := by kernel_rfl
theorem cells9 : Try.prog.cellsOf 9 = 1 := by kernel_rfl
theorem cells3 : Try.prog.cellsOf 3 = 1 := by kernel_rfl
theorem cells36 : Try.prog.cellsOf 36 = 1 := by kernel_rfl
theorem open_attr {n : Nat} {cs : List Value} {x : DataW H × List MemPlace} (h : DataW.trod enc Try.prog W base spare held n 106 cs = some x) : ∃ a : S106, k106.K W a cs := by
  obtain ⟨a, b, rfl, _, _⟩ := open_two (P := Try.prog) (s0 := 9) (s1 := 9) Try.underlying106 (by kernel_rfl) ⟨rfl, rfl⟩ ⟨rfl, rfl⟩ Try.underlying9 Try.underlying9 cells9 cells9 h
  exact ⟨⟨a, b⟩, k106_mk W ⟨a, b⟩⟩
theorem four_of {α : Type} : ∀ l : List α, l.length = 4 → ∃ a b c d, l = [a, b, c, d]
  | [a, b, c, d], _ => ⟨a, b, c, d, rfl⟩
theorem open_act {fuel : Nat} {cs : List Value} {x : DataW H × List MemPlace} (h : DataW.trod enc Try.prog W base spare held fuel 86 cs = some x) : ∃ a, k86.K W a cs ∧ (-9223372036854775808 ≤ a.f1 ∧ a.f1 ≤ 9223372036854775807) := by
  obtain ⟨ys, m, hm, rfl, hl, hys, hf⟩ := DataW.trod_struct Try.underlying86 h
  rw [cells86'] at hl
  match ys, hys with
  | [y0, y1, y2, y3], _ =>
    obtain ⟨v0, v1, v2, v3, rfl⟩ := four_of cs hl
    have e0 := hf 0 { name := "Do", type := 3, offset := 0, embedded := false, tag := "", pkgPath := "", byteOffset := 0 } rfl
    have e1 := hf 1 { name := "N", type := 3, offset := 1, embedded := false, tag := "", pkgPath := "", byteOffset := 8 } rfl
    have e2 := hf 2 { name := "Name", type := 9, offset := 2, embedded := false, tag := "", pkgPath := "", byteOffset := 16 } rfl
    have e3 := hf 3 { name := "Attrs", type := 36, offset := 3, embedded := false, tag := "", pkgPath := "", byteOffset := 32 } rfl
    simp only [cells9, cells36, cells3, List.drop_zero, List.drop_succ_cons, List.take_succ_cons, List.take_zero, List.getElem?_cons_zero, List.getElem?_cons_succ] at e0 e1 e2 e3
    obtain ⟨z0, hz0, _, _⟩ := DataW.trod_int Try.underlying3 e0
    obtain ⟨z1, hz1, _, hw⟩ := DataW.trod_int Try.underlying3 e1
    obtain ⟨nm, hnm, _, _⟩ := DataW.trod_string Try.underlying9 e2
    obtain ⟨A3, c3, at_, ha, hla, hCa⟩ := open_row k106 Try.underlying36 cells106 (fun m cs x hm hx => open_attr hx) e3
    obtain rfl : v0 = _ := (List.cons.inj hz0).1
    obtain rfl : v1 = _ := (List.cons.inj hz1).1
    obtain rfl : v2 = _ := (List.cons.inj hnm).1
    obtain rfl : v3 = _ := (List.cons.inj ha).1
    refine ⟨⟨z0, z1, nm, at_⟩, ⟨[.int .i64 z0], [.int .i64 z1, .string nm, .slice A3 at_.length c3], rfl, rfl, ⟨[.int .i64 z1], [.string nm, .slice A3 at_.length c3], rfl, rfl, ⟨[.string nm], [.slice A3 at_.length c3], rfl, rfl, ⟨A3, c3, rfl, hla, hCa⟩⟩⟩⟩, ?_⟩
    have h := hw
    simpa [Lit.wf, IntKind.min, IntKind.max, IntKind.signed, IntKind.bits] using h
end
end Go.Proofs.Ytcdkcnegejhnhaa.AcOpens
namespace Go.Proofs.Ytcdkcnegejhnhaa.listActs
open Go.ChangeShapes Go.WideShapes Go.ChangeAt Go.RowKit
open Go.ChangeMaps (open_string shut_string)
set_option linter.unusedVariables false
theorem own : ownKnob Try.prog.godebug = none := by kernel_rfl
theorem laidOut : laidOutB Try.prog = true := by kernel_rfl
set_option maxRecDepth 100000 in
theorem lifted (os : Os) (started : os.Started) (H : Type) (enc : TypeId × Value → H) :
    ReturnsInHanded {} Try.checked os 11 .any (Rows.listActsSpec.pre6 enc Try.prog Try.f11 Rows.listActsRow.domain false) (Rows.listActsSpec.post enc Try.prog Try.f11 false true false false) := by
  refine returnsInHanded_of_change_sized (C := Try.checked) own started (by kernel_rfl) Try.func11
    (ChangeSpec.witness6 (enc := enc) (C := Try.checked) false ⟨#[], #[.slice none 0 0], []⟩ 8 (by kernel_rfl) (by kernel_rfl) (by kernel_rfl) (by kernel_rfl)) ?_
  intro W base args ds gs before hval0 hW hcnd hsz0 _
  have hval : ∀ (j : Nat) t v, Try.f11.params[j]? = some t → args[j]? = some v → Value.okWide Try.prog W .any base t v := hval0
  have hW' := hW
  obtain ⟨p, q, hA0, hV, rfl, hfz, hnd⟩ := hW
  have hA : DataW.TrodAll enc Try.prog W 0 (fun _ => true) true Try.f11.params.toList args.toList ds p := hA0
  rw [Try.params11] at hA hval
  obtain ⟨v0, vs0, d0, ds0, p0, q0, hargs, rfl, rfl, h0, r0⟩ := trodAll_cons hA
  obtain ⟨rfl, rfl, rfl⟩ := trodAll_nil r0
  obtain rfl : args = #[v0] := by cases args; simp_all
  obtain ⟨rfl, rfl⟩ := trodVars_none hV
  obtain ⟨a0, len0, cap0, rfl⟩ := okWide_slice Try.underlying84 (hval 0 84 v0 rfl rfl)
  have k0 := h0
  have lt0 : ∀ x ∈ p0, x.block < W.heap.size := by obtain ⟨m, hm⟩ := k0; exact DataW.trod_lt m _ _ _ hm
  obtain ⟨l, hC, hl, hc, -, hg⟩ := Go.Proofs.YtcdkcnegejhnhaaW.Opens.open_C Ar.k86 (fun x => -9223372036854775808 ≤ x.f1 ∧ x.f1 ≤ 9223372036854775807) Try.underlying84 AcOpens.cells86 (fun n cs x h => AcOpens.open_act h) h0
  subst hl
  clear hA0 hval0 hsz0
  refine (Ar.acts_calls a0 cap0 l W hC hg).mono fun e W' ⟨he, bel⟩ => ?_
  subst he
  exact ⟨_, rfl, _, _, _, [], _, [], hW', trodAll_mk1 (shut_bool Try.underlying4 _), (trodAll_cons_mk (Below.trod laidOut (by kernel_rfl) (of_decide_eq_true (by kernel_rfl)) k0 bel lt0) trodAll_mk0), rfl, bel.frame _, fun h => by cases h⟩
theorem over : Rows.listActsRow.holds Try.pinned (OpenSpec.ofChange Rows.listActsSpec) :=
  OpenClaim.holds_of_wide 11 Try.f11 rfl rfl rfl rfl rfl rfl rfl ⟨rfl, rfl, rfl, rfl, rfl⟩ rfl rfl rfl rfl rfl (by kernel_rfl) Try.func11 (by kernel_rfl)
    (of_decide_eq_true (by kernel_rfl)) (by unfold Func.isWrapper; first | (rw [if_pos (by decide +kernel)]; kernel_rfl) | (rw [if_neg (by decide +kernel)]; exact ⟨rfl, rfl⟩))
    (fun os started H enc _ => lifted os started H enc)
theorem proved : Rows.ListActsSaid := over
#print axioms proved
end Go.Proofs.Ytcdkcnegejhnhaa.listActs
namespace Go.Proofs.Ytcdkcnegejhnhaa
/-- The row, under a short name, for the claim. -/
theorem listActs_holds : Rows.ListActsSaid := listActs.proved
end Go.Proofs.Ytcdkcnegejhnhaa
