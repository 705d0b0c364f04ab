/-
  The law ArenaSames: its row, where what it reads is of bulk at most 1048576: the law holds of all such inputs.
-/
import Derived.Test.YtcdkcnegejhnhaaRows
import Derived.Test.YtcdkcnegejhnhaaOpenN2
import Derived.WalkKit
import Derived.ProofKit
import Derived.OpenShut
import Derived.ShutString
import Derived.ChangeOld
import Derived.Below
import Derived.SizedLaws
import Derived.HandedShaped
import Derived.JoinedCond
import Derived.Test.YtcdkcnegejhnhaaWSized
namespace Go.Proofs.Ytcdkcnegejhnhaa.arenaSames
open Go.ChangeShapes Go.WideShapes Go.ChangeAt Go.RowKit
open Go.ChangeMaps (open_string shut_string)
set_option linter.unusedVariables false
set_option linter.unusedSimpArgs false
theorem own : ownKnob Try.prog.godebug = none := by kernel_rfl
theorem laidOut : laidOutB Try.prog = true := by kernel_rfl
set_option maxRecDepth 100000 in
theorem lifted (os : Os) (started : os.Started) (H : Type) (enc : TypeId × Value → H) (F : Stop.Interp) :
    ReturnsInHanded {} Try.checked os 8 .any ((Rows.OpenSpec.upto Rows.arenaSamesSpec).pre6 enc Try.prog Try.f8 Rows.arenaSamesUptoRow.domain false) (((Rows.OpenSpec.upto Rows.arenaSamesSpec).at F).post enc Try.prog Try.f8 false true false false) := by
  refine returnsInHanded_of_cond (C := Try.checked) (s := Rows.OpenSpec.upto Rows.arenaSamesSpec) (k := Rows.uptoSmall) rfl own started (by kernel_rfl) Try.func8
    (OpenSpec.witness (enc := enc) (C := Try.checked) (s := Rows.OpenSpec.upto Rows.arenaSamesSpec) (k := Rows.uptoSmall) rfl false ⟨#[], #[.slice none 0 0, .slice none 0 0], []⟩ 8 (by kernel_rfl) (by kernel_rfl) (by kernel_rfl)
      (x := ([.nil, .nil], [], [])) (by kernel_rfl) rfl (by kernel_rfl)) ?_
  intro W base args ds gs before hval0 hW _ hk _
  have hval : ∀ (j : Nat) t v, Try.f8.params[j]? = some t → args[j]? = some v → Value.okWide Try.prog W .any base t v := hval0
  have hW' := hW
  obtain ⟨p, q, hA0, hV, rfl, hfz, hnd⟩ := hW
  have hA : DataW.TrodAll enc Try.prog W 0 (fun _ => true) true Try.f8.params.toList args.toList ds p := hA0
  rw [Try.params8] at hA hval
  obtain ⟨v0, vs0, d0, ds0, p0, q0, hargs0, rfl, rfl, h0, r0⟩ := trodAll_cons hA
  obtain ⟨v1, vs1, d1, ds1, p1, q1, hargs1, rfl, rfl, h1, r1⟩ := trodAll_cons r0
  obtain ⟨rfl, rfl, rfl⟩ := trodAll_nil r1
  subst hargs1
  obtain rfl : args = #[v0, v1] := by cases args; simp_all
  obtain ⟨rfl, rfl⟩ := trodVars_none hV
  have hbulk : Rows.uptoBulk d0 + Rows.uptoBulk d1 ≤ 1048576 := by have h_ := of_decide_eq_true hk; simp only [Rows.uptoBulkAll, List.append_nil, List.cons_append, List.nil_append] at h_; omega
  have k0 := h0
  have lt0 : ∀ x ∈ p0, x.block < W.heap.size := by obtain ⟨m, hm⟩ := k0; exact DataW.trod_lt m _ _ _ hm
  have k1 := h1
  have lt1 : ∀ x ∈ p1, x.block < W.heap.size := by obtain ⟨m, hm⟩ := k1; exact DataW.trod_lt m _ _ _ hm
  obtain ⟨A0, c0, l0, rfl, hc0, hC0, hb0⟩ : ∃ A c l, v0 = .slice A l.length c ∧ l.length ≤ c ∧ Go.Proofs.YtcdkcnegejhnhaaW.PrintWords.Kd.C PASam.k38 W A l.length l ∧ PASam.vL l + 1 ≤ Rows.uptoBulk d0 := by
    obtain ⟨fuel, hf⟩ := h0
    obtain ⟨A, c, l, e, hc, hC, hb⟩ := (PASam.open_nodes fuel).1 _ _ hf
    obtain ⟨a, n, m, rfl⟩ := okWide_slice Try.underlying22 (hval 0 22 v0 rfl rfl)
    simp [Value.cells] at e
    obtain ⟨rfl, rfl, rfl⟩ := e
    exact ⟨_, _, l, rfl, hc, hC, hb⟩
  obtain ⟨A1, c1, l1, rfl, hc1, hC1, hb1⟩ : ∃ A c l, v1 = .slice A l.length c ∧ l.length ≤ c ∧ Go.Proofs.YtcdkcnegejhnhaaW.PrintWords.Kd.C PASam.k38 W A l.length l ∧ PASam.vL l + 1 ≤ Rows.uptoBulk d1 := by
    obtain ⟨fuel, hf⟩ := h1
    obtain ⟨A, c, l, e, hc, hC, hb⟩ := (PASam.open_nodes fuel).1 _ _ hf
    obtain ⟨a, n, m, rfl⟩ := okWide_slice Try.underlying22 (hval 1 22 v1 rfl rfl)
    simp [Value.cells] at e
    obtain ⟨rfl, rfl, rfl⟩ := e
    exact ⟨_, _, l, rfl, hc, hC, hb⟩
  have e0 := PASam.w_vL l0
  have e1 := PASam.w_vL l1
  clear hA0 hval0
  obtain ⟨k, hk2⟩ := PASam.counts l0 l1 (by omega)
  refine (PASam.decanterlaw12_ArenaSames.calls k _ _ l0 _ _ l1 true W hC0 hc0 hC1 hc1 hk2).mono fun e W' ⟨he, bel⟩ => ?_
  subst he
  exact ⟨_, rfl, _, _, _, [], _, [], hW', trodAll_mk1 (shut_bool Try.underlying4 _), (trodAll_cons_mk (Below.trod laidOut (by kernel_rfl) (of_decide_eq_true (by kernel_rfl)) k0 bel lt0) (trodAll_cons_mk (Below.trod laidOut (by kernel_rfl) (of_decide_eq_true (by kernel_rfl)) k1 bel lt1) trodAll_mk0)), rfl, bel.frame _, fun h => by cases h⟩
theorem proved : Rows.ArenaSamesUptoSaid :=
  OpenClaim.holds_of_cond 8 Try.f8 rfl rfl rfl rfl rfl rfl rfl ⟨rfl, rfl, rfl, rfl, rfl⟩ rfl rfl rfl rfl rfl (by kernel_rfl) Try.func8 (by kernel_rfl)
    (of_decide_eq_true (by kernel_rfl)) (by unfold Func.isWrapper; first | (rw [if_pos (by decide +kernel)]; kernel_rfl) | (rw [if_neg (by decide +kernel)]; exact ⟨rfl, rfl⟩))
    (fun os started H enc _ F => lifted os started H enc F)
#print axioms proved
end Go.Proofs.Ytcdkcnegejhnhaa.arenaSames
namespace Go.Proofs.Ytcdkcnegejhnhaa
/-- The row, under a short name, for the claim. -/
theorem arenaSames_holds : Rows.ArenaSamesUptoSaid := arenaSames.proved
end Go.Proofs.Ytcdkcnegejhnhaa
