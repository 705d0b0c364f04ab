import Derived.Test.YtnmjocoopbfpnaaDoorRefModel
namespace Go.Proofs.YtnmjocoopbfpnaaDoor.Pure
open Go.RowKit Go.Proofs.YtnmjocoopbfpnaaDoor.PRefA Go.Proofs.YtnmjocoopbfpnaaDoor.RefModel Go.Proofs.YtnmjocoopbfpnaaDoorW.PrintWords Go.Proofs.YtnmjocoopbfpnaaDoorW.PrintLast
theorem pt_w (a : Int) : wrap64 (ref_Point.pt a) = ref_Point.pt a := by
  obtain ⟨c, h, hc⟩ := pt_ok a
  rw [h]
  exact w64 _ (by omega) (by omega)
theorem points_loop (a : Int) (h1 : -9223372036854775808 ≤ a) (h2 : a ≤ 9223372036854775807) : ∀ d i k : Nat, i + d = 301 → d + 2 ≤ k → decanterlaw05_RefPoints.l0 k a ((i : Int) - 1) = some true
  | 0, i, k + 2, hd, hk => by
    rw [decanterlaw05_RefPoints.l0, if_neg (by omega)]
    unfold ref_Point.f
    rw [Option.bind_some, point_eq a h1 h2 k, Option.bind_some, pt_w]
    simp
  | d + 1, i, k + 2, hd, hk => by
    rw [decanterlaw05_RefPoints.l0, if_pos (by omega)]
    unfold ref_Point.f
    rw [Option.bind_some, point_eq _ (by omega) (by omega) k, Option.bind_some, pt_w, if_pos rfl, w64 _ (by omega) (by omega), show (i : Int) - 1 + 1 = ((i + 1 : Nat) : Int) - 1 by omega]
    exact points_loop a h1 h2 d (i + 1) (k + 1) (by omega) (by omega)
theorem RefPoints : decanterlaw05_RefPoints.Pure := by
  intro a0 hw
  have hb : -9223372036854775808 ≤ a0 ∧ a0 ≤ 9223372036854775807 := by
    simpa [Lit.wf, IntKind.min, IntKind.max, IntKind.signed, IntKind.bits] using hw
  refine ⟨310, ?_⟩
  unfold decanterlaw05_RefPoints.f decanterlaw05_speaks.f
  rw [Option.bind_some, if_pos rfl]
  exact points_loop a0 hb.1 hb.2 301 0 310 rfl (by omega)
end Go.Proofs.YtnmjocoopbfpnaaDoor.Pure
