import Derived.Test.YtcdkcnegejhnhaaProg
import Derived.Test.YtcdkcnegejhnhaaWWords
import Derived.Test.YtcdkcnegejhnhaaWLast
import Derived.Test.YtcdkcnegejhnhaaWMore
import Derived.WalkKit
import Derived.ProofKit
import Derived.Shelf.Abstract
import Derived.Lib.Hide
import Derived.Deep.LoopGhost
import Derived.Handy
import Derived.Laws.Cover3
import Derived.Test.YtcdkcnegejhnhaaPArx0
namespace Go.Proofs.Ytcdkcnegejhnhaa.PAr
open Go.RowKit Go.Proofs.YtcdkcnegejhnhaaW.PrintWords Go.Proofs.YtcdkcnegejhnhaaW.PrintLast Go.Proofs.YtcdkcnegejhnhaaW.PrintMore
attribute [local go_sem] max2_int min2_int max_two min_two max_three min_three max_four min_four
def api_Attr_.f (l0 : List S105) : Option (List S105) := if l0.length < 4398046511104 then some l0 else none
theorem api_Attr_.flat {w w' : World} {base : Nat} {ok : Nat → Prop} {x : S105} {cs : List Value} (h : k105.K w x cs) : k105.M w' base ok x cs := by
  obtain rfl := k105_open h
  exact k105_mkM _ _ _ x
theorem api_Attr_.nil_eq (w : World) (a : Option Addr) (l c : Nat) : (binOp .eql 29 (.slice a l c) (.slice none 0 0)).run Try.prog w = .ok (.bool a.isNone) w := by
  simp [binOp, run_equal_slice_nil w 29 105 a l c Try.underlying29]
theorem api_Attr_.empty (w : World) : Kd.R k105 105 (w.alloc (.cells #[] 105)) w.heap.size (fun _ => True) (.slice (some ⟨w.heap.size, 0, none⟩) 0 0) [] :=
  ⟨fun _ _ => trivial, OwnRow.lit w w.heap.size (Reps.none _ _) (Nat.le_refl _) (by simp)⟩
set_option maxRecDepth 100000 in
set_option maxHeartbeats 4000000 in
theorem api_Attr_.calls (A0 : Option Addr) (c0 : Nat) (l0 r : List S105) (w : World) (hr0 : Kd.C k105 w A0 l0.length l0) (hc0 : l0.length ≤ c0) (h : api_Attr_.f l0 = some r) :
    Calls Try.prog 71 #[.slice A0 l0.length c0] w fun e w' => ∃ v0_ : Value, e = .returned v0_ ∧ Kd.R k105 105 w' w.heap.size (fun _ => True) v0_ r ∧ Below w.heap.size w w' := by
  unfold api_Attr_.f at h
  split at h
  · rename_i hl
    obtain rfl := Option.some.inj h
    clear h
    cases A0 with
    | none =>
      have h0 : l0 = [] := by
        cases l0 with
        | nil => rfl
        | cons y t =>
          obtain ⟨ad, hA, _⟩ := hr0.2.2 (Nat.succ_pos _)
          cases hA
      subst h0
      have hq : ∀ (W : World) (l c : Nat), (binOp .eql 29 (.slice none l c) (.slice none 0 0)).run Try.prog W = .ok (.bool true) W := fun W l c => api_Attr_.nil_eq W none l c
      go_enter Try.func71, Try.ntmps71
      go_wp2
      go_ret
      exact ⟨_, rfl, Kd.R_nil _ _ _ _ _, Below.refl _ _⟩
    | some ad =>
      have HR := Lib.hid hr0
      have HE := Lib.hid (api_Attr_.empty w)
      have HB := Lib.hid ((Below.refl w.heap.size w).alloc (Nat.le_refl _) (.cells #[] 105))
      clear hr0
      have hq : ∀ (W : World) (l c : Nat), (binOp .eql 29 (.slice (some ad) l c) (.slice none 0 0)).run Try.prog W = .ok (.bool false) W := fun W l c => api_Attr_.nil_eq W (some ad) l c
      go_enter Try.func71, Try.ntmps71
      go_wp2_with (first | ((with_reducible refine gate_builtin (b := .append) (xs := #[.tmp 5, .tmp 6]) rfl ?_); at_builtin; refine Kd.R_append_rows k105 (w0 := w) w.heap.size rfl (.tmp 5) (.tmp 6) 29 105 (.agg #[(.string ⟨#[]⟩), (.string ⟨#[]⟩)]) 32 rfl Try.underlying29 info105 rfl (by decide) (by omega) _ [] l0 _ _ _ (fun _ => True) (fun _ => False) rfl rfl HE.out (Kd.C_below HR.out HB.out) (fun _ _ h => api_Attr_.flat h) (fun _ h => h.elim) (fun _ _ => trivial) HB.out HB.out.size (by rw [List.length_nil]; omega) ?_; intro v1 w1 ho hb hg hat; have HO := Lib.hid ho; have HB1 := Lib.hid hb; clear ho hb hg hat))
      go_ret
      exact ⟨_, rfl, HO.out, HB1.out⟩
  · cases h

end Go.Proofs.Ytcdkcnegejhnhaa.PAr
