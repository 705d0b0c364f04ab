import Derived.Test.YtnmjocoopbfpnaaDoorTextsWalk
import Derived.Test.YtnmjocoopbfpnaaDoorPureEntityPrefix
namespace Go.Proofs.YtnmjocoopbfpnaaDoor.Pure
open Go.RowKit Go.Proofs.YtnmjocoopbfpnaaDoor.PEntityP Go.Proofs.YtnmjocoopbfpnaaDoor.EntBase Go.Proofs.YtnmjocoopbfpnaaDoorW.PrintWords Go.Proofs.YtnmjocoopbfpnaaDoorW.PrintLast Go.Proofs.YtnmjocoopbfpnaaDoorW.PrintMore
theorem EntityTexts (a0 : Int) (h0 : (Lit.int .u16 a0).wf = true) : decanterlaw04_EntityTexts.f 10 a0 = some true := by
  have hw : 0 ≤ a0 ∧ a0 ≤ 65535 := by
    simp [Lit.wf, IntKind.min, IntKind.max, IntKind.signed, IntKind.bits] at h0
    omega
  unfold decanterlaw04_EntityTexts.f
  rw [if_pos ⟨hw.1, hw.2, ent_speaks 10 (by omega), find_name _ (Nat.mod_lt _ (by omega)) 10 (by omega)⟩]
theorem textsWalk (a0 : Int) (w : World) (hW : Wok w) (w0 : (Lit.int .u16 a0).wf = true) :
    Calls Tryd.prog 6 #[.int .u16 a0] w fun e w' => e = .returned (.bool true) ∧ Below w.heap.size w w' := by
  refine (decanterlaw04_EntityTexts.calls 10 a0 true w hW (EntityTexts a0 w0)).mono ?_
  rintro e w' ⟨rfl, hd⟩
  exact ⟨rfl, hd⟩
end Go.Proofs.YtnmjocoopbfpnaaDoor.Pure
