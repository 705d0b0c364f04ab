import Derived.Test.YtnmjocoopbfpnaaDoorPRefAx10
import Derived.Test.YtnmjocoopbfpnaaDoorRefStay
namespace Go.Proofs.YtnmjocoopbfpnaaDoor.Pure
open Go.RowKit Go.Proofs.YtnmjocoopbfpnaaDoor.PRefA Go.Proofs.YtnmjocoopbfpnaaDoor.RefModel Go.Proofs.YtnmjocoopbfpnaaDoor.CharPure Go.Proofs.YtnmjocoopbfpnaaDoorW.PrintWords Go.Proofs.YtnmjocoopbfpnaaDoorW.PrintLast Go.Proofs.YtnmjocoopbfpnaaDoorW.PrintMore
theorem behind_j0 (a b c : List Int) (ha : Bytes a) (hb : Bytes b) (hc : Bytes c) (la : a.length ≤ 100) (lb : b.length ≤ 100) (lc : c.length ≤ 100) (at_ : Bool) (k : Nat) (hk : 1100 ≤ k) : decanterlaw05_RefBehind.j0 (k + 1) a b c at_ false = some true := by
  rw [decanterlaw05_RefBehind.j0, if_neg (by decide), read_eq b hb (by omega) 0 at_ k (by omega), Option.bind_some]
  cases hr : rdI b 0 at_ with
  | none =>
    unfold pres
    dsimp only
    rw [if_neg (by decide)]
  | some te =>
    obtain ⟨t, e⟩ := te
    have hb0 : 0 < b.length := by
      unfold rdI at hr
      split at hr
      · omega
      · cases hr
    have hr' : rdm b 0 at_ = some (t, e) := by
      rw [← hr]
      exact (rdI_at b 0 at_ hb0).symm
    have h3 := rdm_three b 0 at_ t e hr'
    have hend := rdm_end b 0 at_ t e hr'
    unfold pres
    dsimp only
    rw [if_pos rfl, if_neg (by omega), if_neg (by omega), w64 ((e : Int) - 1) (by omega) (by omega), if_pos (by omega), if_pos (by omega), show ((e : Int) - 1) = ((e - 1 : Nat) : Int) by omega, rd_bn hb]
    by_cases h59 : bn b (e - 1) = 59
    · have hst := rdm_stay a b c at_ t e hr' h59
      have htl : (b.take e).length = e := by rw [List.length_take]; omega
      rw [if_pos (by omega), Option.bind_some, if_pos (by rw [List.length_nil]; omega), Option.bind_some, if_pos (by omega), if_pos (by omega), Int.toNat_natCast, List.nil_append, if_pos (by omega), Option.bind_some, if_pos (by rw [List.length_append]; omega), List.append_assoc]
      have hB : Bytes (a ++ (b.take e ++ c)) := fun x hx => by
        rcases List.mem_append.1 hx with q | q
        · exact ha x q
        · rcases List.mem_append.1 q with q | q
          · exact hb x (List.mem_of_mem_take q)
          · exact hc x q
      have hL : (a ++ (b.take e ++ c)).length = a.length + (e + c.length) := by rw [List.length_append, List.length_append, htl]
      rw [read_eq _ hB (by omega) _ at_ k (by omega), rdI_at _ a.length at_ (by omega), hst, Option.bind_some]
      unfold pres
      dsimp only
      rw [if_pos rfl, if_pos rfl, w64 _ (by omega) (by omega)]
      simp
    · rw [if_neg (by omega), if_pos (by omega), decide_eq_true (by omega)]
theorem RefBehind : decanterlaw05_RefBehind.Pure := by
  intro l0 l1 l2 a3 _ _ hw0 _ _ hw1 _ _ hw2
  have ha : Bytes l0 := fun x hx => byte_of_wf (hw0 x hx)
  have hb : Bytes l1 := fun x hx => byte_of_wf (hw1 x hx)
  have hc : Bytes l2 := fun x hx => byte_of_wf (hw2 x hx)
  have ht : decanterlaw05_RefBehind.j0 1201 l0 l1 l2 a3 true = some true := by
    rw [decanterlaw05_RefBehind.j0, if_pos rfl]
    rfl
  refine ⟨1201, ?_⟩
  unfold decanterlaw05_RefBehind.f decanterlaw05_speaks.f
  rw [Option.bind_some, if_pos rfl]
  by_cases h0 : (l0.length : Int) > 100
  · rw [if_pos h0, ht]
  · by_cases h1 : (l1.length : Int) > 100
    · rw [if_neg h0, if_pos h1, ht]
    · rw [if_neg h0, if_neg h1]
      by_cases h2 : (l2.length : Int) > 100
      · rw [decide_eq_true h2, ht]
      · rw [decide_eq_false h2]
        exact behind_j0 l0 l1 l2 ha hb hc (by omega) (by omega) (by omega) a3 1200 (by omega)
end Go.Proofs.YtnmjocoopbfpnaaDoor.Pure
