/-
  Of alike elements that are pushed the last three stay: for every input (at most 40 names and 10 attributes, otherwise the example alone).
-/
import Derived.Test.YtcdkcnegejhnhaaRows
import Derived.Test.YtcdkcnegejhnhaaOpens
import Derived.Test.YtcdkcnegejhnhaaAlikeWalk
import Derived.WalkKit
import Derived.ProofKit
import Derived.OpenShut
import Derived.ShutString
import Derived.ChangeOld
import Derived.Below
import Derived.SizedLaws
import Derived.Test.YtcdkcnegejhnhaaWSized
namespace Go.Proofs.Ytcdkcnegejhnhaa.listAlike
open Go.ChangeShapes Go.WideShapes Go.ChangeAt Go.RowKit
open Go.ChangeMaps (open_string shut_string)
set_option linter.unusedVariables false
theorem own : ownKnob Try.prog.godebug = none := by kernel_rfl
theorem laidOut : laidOutB Try.prog = true := by kernel_rfl
set_option maxRecDepth 100000 in
theorem lifted (os : Os) (started : os.Started) (H : Type) (enc : TypeId × Value → H) :
    ReturnsInHanded {} Try.checked os 6 .any (Rows.listAlikeSpec.pre6 enc Try.prog Try.f6 Rows.listAlikeRow.domain false) (Rows.listAlikeSpec.post enc Try.prog Try.f6 false true false false) := by
  refine returnsInHanded_of_change_sized (C := Try.checked) own started (by kernel_rfl) Try.func6
    (ChangeSpec.witness6 (enc := enc) (C := Try.checked) false ⟨#[], #[.slice none 0 0, .slice none 0 0], []⟩ 8 (by kernel_rfl) (by kernel_rfl) (by kernel_rfl) (by kernel_rfl)) ?_
  intro W base args ds gs before hval0 hW hcnd hsz0 _
  have hval : ∀ (j : Nat) t v, Try.f6.params[j]? = some t → args[j]? = some v → Value.okWide Try.prog W .any base t v := hval0
  have hW' := hW
  obtain ⟨p, q, hA0, hV, rfl, hfz, hnd⟩ := hW
  have hA : DataW.TrodAll enc Try.prog W 0 (fun _ => true) true Try.f6.params.toList args.toList ds p := hA0
  rw [Try.params6] at hA hval
  obtain ⟨v0, vs0, d0, ds0, p0, q0, hargs, rfl, rfl, h0, r0⟩ := trodAll_cons hA
  obtain ⟨v1, vs1, d1, ds1, p1, q1, rfl, rfl, rfl, h1, r1⟩ := trodAll_cons r0
  obtain ⟨rfl, rfl, rfl⟩ := trodAll_nil r1
  obtain rfl : args = #[v0, v1] := by cases args; simp_all
  obtain ⟨rfl, rfl⟩ := trodVars_none hV
  obtain ⟨a0, len0, cap0, rfl⟩ := okWide_slice Try.underlying49 (hval 0 49 v0 rfl rfl)
  obtain ⟨a1, len1, cap1, rfl⟩ := okWide_slice Try.underlying36 (hval 1 36 v1 rfl rfl)
  have k0 := h0
  have lt0 : ∀ x ∈ p0, x.block < W.heap.size := by obtain ⟨m, hm⟩ := k0; exact DataW.trod_lt m _ _ _ hm
  have k1 := h1
  have lt1 : ∀ x ∈ p1, x.block < W.heap.size := by obtain ⟨m, hm⟩ := k1; exact DataW.trod_lt m _ _ _ hm
  obtain ⟨l, hC, hl, hc, -, -⟩ := Go.Proofs.YtcdkcnegejhnhaaW.Opens.open_C Go.Proofs.YtcdkcnegejhnhaaW.PrintWords.Kd.string (fun _ => True) Try.underlying49 (by kernel_rfl) (fun n cs x h => by
    obtain ⟨a, rfl, _, _⟩ := DataW.trod_string Try.underlying9 h
    exact ⟨a, rfl, trivial⟩) h0
  subst hl
  obtain ⟨l1, hC1, hl1, hc1, -, -⟩ := Go.Proofs.YtcdkcnegejhnhaaW.Opens.open_C PAr.k106 (fun _ => True) Try.underlying36 (by kernel_rfl) (fun n cs x h => by
    obtain ⟨a, b, rfl, _⟩ := Go.Proofs.YtcdkcnegejhnhaaW.Opens.open_two Try.underlying106 (by kernel_rfl) ⟨rfl, rfl⟩ ⟨rfl, rfl⟩ Try.underlying9 Try.underlying9 (by kernel_rfl) (by kernel_rfl) h
    exact ⟨⟨a, b⟩, PAr.k106_mk W ⟨a, b⟩, trivial⟩) h1
  subst hl1
  clear hA0 hval0 hsz0
  refine (Ar.alike_calls a0 cap0 l a1 cap1 l1 W hC hC1 hc1).mono fun e W' ⟨he, bel⟩ => ?_
  subst he
  exact ⟨_, rfl, _, _, _, [], _, [], hW', trodAll_mk1 (shut_bool Try.underlying4 _), (trodAll_cons_mk (Below.trod laidOut (by kernel_rfl) (of_decide_eq_true (by kernel_rfl)) k0 bel lt0) (trodAll_cons_mk (Below.trod laidOut (by kernel_rfl) (of_decide_eq_true (by kernel_rfl)) k1 bel lt1) trodAll_mk0)), rfl, bel.frame _, fun h => by cases h⟩
theorem over : Rows.listAlikeRow.holds Try.pinned (OpenSpec.ofChange Rows.listAlikeSpec) :=
  OpenClaim.holds_of_wide 6 Try.f6 rfl rfl rfl rfl rfl rfl rfl ⟨rfl, rfl, rfl, rfl, rfl⟩ rfl rfl rfl rfl rfl (by kernel_rfl) Try.func6 (by kernel_rfl)
    (of_decide_eq_true (by kernel_rfl)) (by unfold Func.isWrapper; first | (rw [if_pos (by decide +kernel)]; kernel_rfl) | (rw [if_neg (by decide +kernel)]; exact ⟨rfl, rfl⟩))
    (fun os started H enc _ => lifted os started H enc)
theorem proved : Rows.ListAlikeSaid := over
#print axioms proved
end Go.Proofs.Ytcdkcnegejhnhaa.listAlike
namespace Go.Proofs.Ytcdkcnegejhnhaa
/-- The row, under a short name, for the claim. -/
theorem listAlike_holds : Rows.ListAlikeSaid := listAlike.proved
end Go.Proofs.Ytcdkcnegejhnhaa
