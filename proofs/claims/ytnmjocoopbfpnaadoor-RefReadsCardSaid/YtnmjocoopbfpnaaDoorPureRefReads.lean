import Derived.Test.YtnmjocoopbfpnaaDoorRefRead
namespace Go.Proofs.YtnmjocoopbfpnaaDoor.Pure
open Go.RowKit Go.Proofs.YtnmjocoopbfpnaaDoor.PRefA Go.Proofs.YtnmjocoopbfpnaaDoor.RefModel Go.Proofs.YtnmjocoopbfpnaaDoor.CharPure Go.Proofs.YtnmjocoopbfpnaaDoorW.PrintWords Go.Proofs.YtnmjocoopbfpnaaDoorW.PrintLast Go.Proofs.YtnmjocoopbfpnaaDoorW.PrintMore
theorem reads_step (l : List Int) (hb : Bytes l) (hl : l.length ≤ 1000) (o a u v : Int) (i k : Nat) (hi : i < 2) (hk : 2030 ≤ k) : decanterlaw05_RefReads.l1 (k + 1) l o a u v [false, true] 2 (i : Int) = decanterlaw05_RefReads.l1 k l o a u v [false, true] 2 ((i + 1 : Nat) : Int) := by
  have hlen : (([false, true] : List Bool).length : Int) = 2 := rfl
  rw [decanterlaw05_RefReads.l1, if_pos (by omega), if_pos (by omega), hlen, if_pos (by omega), read_eq l hb hl a _ k (by omega), doc_eq l hb hl a _ k hk, Option.bind_some, Option.bind_some, w64 _ (by omega) (by omega)]
  cases rdI l a (rdOf false [false, true] (i : Int)) with
  | none =>
    unfold pres dres
    dsimp only
    rw [if_neg (by decide), if_pos rfl, if_pos (by decide)]
    rfl
  | some te =>
    obtain ⟨t, e⟩ := te
    unfold pres dres
    dsimp only
    rw [decide_eq_true (by omega), if_neg (by decide), if_pos rfl, show mx (e : Int) 0 = (e : Int) by unfold mx; rw [if_neg (by omega)], if_pos rfl]
    rfl
theorem reads_j2 (l : List Int) (hb : Bytes l) (hl : l.length ≤ 1000) (o a u : Int) (v k : Nat) (hv : v ≤ 1000) (hk : 2040 ≤ k) : decanterlaw05_RefReads.j2 (k + 4) l o a u (v : Int) = decanterlaw05_RefReads.l0 k l o u ((v + 1 : Nat) : Int) := by
  have hlen : (([false, true] : List Bool).length : Int) = 2 := rfl
  have h0 := reads_step l hb hl o a u (v : Int) 0 (k + 2) (by omega) (by omega)
  have h1 := reads_step l hb hl o a u (v : Int) 1 (k + 1) (by omega) (by omega)
  rw [decanterlaw05_RefReads.j2, Option.bind_some, hlen]
  refine h0.trans (h1.trans ?_)
  rw [decanterlaw05_RefReads.l1, if_neg (by omega), w64 _ (by omega) (by omega)]
  rfl
theorem reads_loop (l : List Int) (hb : Bytes l) (hl : l.length ≤ 1000) (o : Int) : ∀ d i k : Nat, i + d = l.length + 1 → 5 * d + 2050 ≤ k → decanterlaw05_RefReads.l0 k l o ((l.length : Int) + 1) (i : Int) = some true
  | 0, i, k + 1, hd, hk => by
    rw [decanterlaw05_RefReads.l0, if_neg (by omega)]
  | d + 1, i, k + 5, hd, hk => by
    rw [decanterlaw05_RefReads.l0, if_pos (by omega), reads_j2 l hb hl _ _ _ i k (by omega) (by omega), reads_j2 l hb hl _ _ _ i k (by omega) (by omega), reads_loop l hb hl o d (i + 1) k (by omega) (by omega)]
    split <;> rfl
theorem RefReads : decanterlaw05_RefReads.Pure := by
  intro l0 a1 _ _ hw _
  have hb : Bytes l0 := fun x hx => byte_of_wf (hw x hx)
  refine ⟨10000, ?_⟩
  unfold decanterlaw05_RefReads.f decanterlaw05_speaks.f
  rw [Option.bind_some, if_pos rfl, decanterlaw05_RefReads.j0]
  by_cases h : (l0.length : Int) > 300
  · rw [decide_eq_true h, if_pos rfl]
    rfl
  · rw [decide_eq_false h, if_neg (by decide), w64 _ (by omega) (by omega)]
    exact reads_loop l0 hb (by omega) a1 (l0.length + 1) 0 9999 (by omega) (by omega)
end Go.Proofs.YtnmjocoopbfpnaaDoor.Pure
