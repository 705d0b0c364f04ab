/-
  Rows of whole numbers of the call's own: the library's functions over them.
-/
import Derived.Test.YtcdkcnegejhnhaaArBase
import Derived.Test.YtcdkcnegejhnhaaShelf
import Derived.Sort.OwnSortedInts
namespace Go.Proofs.Ytcdkcnegejhnhaa.Ar
open Go.RowKit Go.Proofs.Ytcdkcnegejhnhaa.PAr Go.Proofs.YtcdkcnegejhnhaaW.PrintWords Go.Proofs.YtcdkcnegejhnhaaW.PrintLast Go.Proofs.YtcdkcnegejhnhaaW.PrintMore
open Go.Sort
set_option linter.unusedVariables false

theorem IR.split {w : World} {base : Nat} {v : Value} {xs : List Int} (h : IR w base v xs) : (v = .slice none 0 0 ∧ xs = []) ∨
    ∃ b cap cur, v = .slice (some ⟨b, 0, none⟩) xs.length cap ∧ base ≤ b ∧ w.heap[b]? = some (.cells cur 3 (0, 0)) ∧ xs.length ≤ cap ∧ cap ≤ maxLen ∧ cur.size = cap ∧ cur.toList.take xs.length = xs.map (Value.int .i64) := by
  rcases h.2 with ⟨h1, h2⟩ | ⟨b, cap, cur, h1, h2, h3, h4, h5, h6, h7⟩
  · exact .inl ⟨h1, List.eq_nil_of_length_eq_zero h2⟩
  · exact .inr ⟨b, cap, cur, h1, h2, h3, h4, h5, by omega, by rw [← Nat.mul_one xs.length, h7]; rfl⟩
theorem IR.mk {w : World} {base : Nat} {xs : List Int} {b cap : Nat} {cur : Array Value} (h2 : base ≤ b) (h3 : w.heap[b]? = some (.cells cur 3 (0, 0))) (h4 : xs.length ≤ cap) (h5 : cap ≤ maxLen) (h6 : cur.size = cap)
    (h7 : cur.toList.take xs.length = xs.map (Value.int .i64)) : IR w base (.slice (some ⟨b, 0, none⟩) xs.length cap) xs :=
  ⟨by simp [nums], .inr ⟨b, cap, cur, rfl, h2, h3, h4, h5, by omega, by rw [Nat.mul_one, h7]; rfl⟩⟩
theorem IR.cells {w : World} {base b cap : Nat} {xs : List Int} (h : IR w base (.slice (some ⟨b, 0, none⟩) xs.length cap) xs) (j : Nat) (hj : j < xs.length) : w.cell? ⟨b, 0 + j, none⟩ = some (.int .i64 (xs.getD j 0)) := by
  have := World.ownsRow.cellAt h j (by omega)
  rw [Nat.zero_add, this]
  simp [nums, hj, List.getD_eq_getElem?_getD]
theorem IR.take {w : World} {base b cap : Nat} {xs : List Int} (h : IR w base (.slice (some ⟨b, 0, none⟩) xs.length cap) xs) (m : Nat) (hm : m ≤ xs.length) : IR w base (.slice (some ⟨b, 0, none⟩) m cap) (xs.take m) := by
  rcases h.split with ⟨h1, _⟩ | ⟨b', cap', cur, h1, h2, h3, h4, h5, h6, h7⟩
  · cases h1
  · obtain ⟨rfl, rfl⟩ : b = b' ∧ cap = cap' := by injection h1 with h1 h1a h1b; injection h1 with h1; injection h1 with h1; exact ⟨h1, h1b⟩
    have hl : (xs.take m).length = m := by rw [List.length_take]; omega
    have := IR.mk (w := w) (base := base) (xs := xs.take m) h2 h3 (by omega) h5 h6 (by
      rw [hl, List.map_take, ← h7, List.take_take, Nat.min_eq_left hm])
    rw [hl] at this
    exact this
theorem take_app {α : Type} (ys zs : List α) (m : Nat) (h : m = ys.length) : (ys ++ zs).take m = ys := by subst h; simp
/-- slices.Index. -/
theorem index_calls (v : Value) (xs : List Int) (x : Int) (w : World) {base : Nat} (h : IR w base v xs) (hl : xs.length ≤ 9223372036854775807) :
    Calls Try.prog 72 #[v, .int .i64 x] w fun e w' => e = .returned (.int .i64 (Lib.idxOf xs x)) ∧ w' = w := by
  rcases h.split with ⟨rfl, rfl⟩ | ⟨b, cap, cur, rfl, _⟩
  · exact Try.slices_Index_int_empty none 0 x w
  · refine (Try.slices_Index_int b 0 xs.length cap xs x w (Nat.le_refl _) hl (fun j hj => h.cells j hj)).mono ?_
    rintro e w' ⟨rfl, rfl⟩
    exact ⟨by rw [List.take_of_length_le (Nat.le_refl _)], rfl⟩
/-- slices.Clone. -/
theorem clone_calls (v : Value) (xs : List Int) (w : World) {base : Nat} (h : IR w base v xs) (hl : xs.length ≤ 17592186044416) :
    Calls Try.prog 74 #[v] w fun e w' => ∃ v', e = .returned v' ∧ IR w' w.heap.size v' xs ∧ Below w.heap.size w w' := by
  rcases h.split with ⟨rfl, rfl⟩ | ⟨b, cap, cur, rfl, _⟩
  · refine (Try.slices_Clone_int_nil 0 0 w).mono ?_
    rintro e w' ⟨rfl, rfl⟩
    exact ⟨_, rfl, IR.nil _ _, Below.refl _ _⟩
  · refine (Try.slices_Clone_int b 0 xs.length cap xs w (Nat.le_refl _) (by omega) (fun j hj => h.cells j hj)).mono ?_
    rintro e w' ⟨v', rfl, h1, _, hb⟩
    rw [List.take_of_length_le (Nat.le_refl _)] at h1
    exact ⟨v', rfl, h1, hb⟩
theorem putRow_own {w : World} {base b cap q : Nat} {xs ys : List Int} (h : IR w base (.slice (some ⟨b, 0, none⟩) xs.length cap) xs) (hl : ys.length = xs.length) :
    IR (putRow (Value.int .i64) (Sort.ahead w q) b 0 ys.toArray) base (.slice (some ⟨b, 0, none⟩) xs.length cap) ys ∧ w.grownBy (putRow (Value.int .i64) (Sort.ahead w q) b 0 ys.toArray) (some b) := by
  rcases h.split with ⟨h1, _⟩ | ⟨b', cap', cur, h1, h2, h3, h4, h5, h6, h7⟩
  · cases h1
  · obtain ⟨rfl, rfl⟩ : b = b' ∧ cap = cap' := by injection h1 with h1 h1a h1b; injection h1 with h1; injection h1 with h1; exact ⟨h1, h1b⟩
    have h8 := ownsRow_sortedI (w := w) (n := q) (os := #[]) hl h2 h3 h4 h5 (by omega)
    have h9 := grownBy_sortedI (w := w) (g := b) (n := q) (os := #[]) ys.toArray
    rw [grow_empty] at h8 h9
    refine ⟨?_, h9⟩
    unfold IR
    rw [hl]
    exact h8
/-- slices.Delete of one. -/
theorem delete_calls (v : Value) (xs : List Int) (i : Nat) (w : World) {base : Nat} (h : IR w base v xs) (hi : i < xs.length) :
    Calls Try.prog 77 #[v, .int .i64 (i : Int), .int .i64 ((i + 1 : Nat) : Int)] w fun e w' => ∃ v', e = .returned v' ∧ IR w' base v' (xs.take i ++ xs.drop (i + 1)) ∧ v'.ownBlock = v.ownBlock ∧ w.grownBy w' v.ownBlock := by
  rcases h.split with ⟨rfl, rfl⟩ | ⟨b, cap, cur, rfl, h2, h3, h4, h5, h6, h7⟩
  · simp at hi
  · have hm : cap ≤ 9223372036854775807 := by simp only [maxLen] at h5; omega
    refine (Try.slices_Delete_int b 0 cap i (i + 1) xs w (holds_of_blockI h3 h7) h4 hm (by omega) (by omega)).mono ?_
    rintro e w' ⟨rfl, q, rfl⟩
    have hl : (xs.take i ++ xs.drop (i + 1) ++ List.replicate (i + 1 - i) (0 : Int)).length = xs.length := by simp; omega
    obtain ⟨h8, h9⟩ := putRow_own (q := q) h hl
    refine ⟨_, rfl, ?_, rfl, h9⟩
    have h10 := IR.take (xs := xs.take i ++ xs.drop (i + 1) ++ List.replicate (i + 1 - i) (0 : Int)) (m := xs.length - (i + 1 - i)) (by rw [hl]; exact h8) (by omega)
    rwa [take_app _ _ _ (by simp; omega)] at h10
/-- The closure that tells whether a place is this one. -/
theorem gives92 (p x : Int) (B : Nat) (W : World) (hc : W.cell? ⟨B, 0, none⟩ = some (.int .i64 p)) :
    FnGives Try.prog 92 #[.pointer (some ⟨B, 0, none⟩)] #[.int .i64 x] (.bool (x == p)) W := by
  show Calls Try.prog 92 #[.int .i64 x, .pointer (some ⟨B, 0, none⟩)] W _
  go_enter Try.func92, Try.ntmps92
  go_wp2
  go_ret
  exact ⟨rfl, 0, rfl⟩
theorem over92 (p : Int) (B blk off size : Nat) (w : World) (hB : B < w.heap.size) (hne : B ≠ blk) (hcell : w.cell? ⟨B, 0, none⟩ = some (.int .i64 p)) :
    PredOver Try.prog 92 #[.pointer (some ⟨B, 0, none⟩)] (Value.int .i64) (fun x => x == p) blk off size w :=
  fun n os dk x _ => gives92 p x B _ (by
    unfold sortWorld
    rw [cell?_grow _ _ _ (by show B < (putRow _ _ _ _ _).heap.size; rw [size_putRow]; exact hB), cell?_putRow_other _ _ blk off _ _ (Or.inl hne)]
    exact hcell)
/-- slices.DeleteFunc of all that are p. -/
theorem deleteFunc_calls (v : Value) (xs : List Int) (p : Int) (B : Nat) (w : World) {base : Nat} (h : IR w base v xs) (hc : w.cell? ⟨B, 0, none⟩ = some (.int .i64 p)) (hB : v.ownBlock ≠ some B) (hl : xs.length ≤ 9223372036854775807) :
    Calls Try.prog 91 #[v, .func (.func 92) #[] #[.pointer (some ⟨B, 0, none⟩)]] w fun e w' => ∃ v', e = .returned v' ∧ IR w' base v' (xs.filter fun x => !(x == p)) ∧ v'.ownBlock = v.ownBlock ∧ w.grownBy w' v.ownBlock := by
  have hlt := World.block_lt_of_cell? w _ hc
  rcases h.split with ⟨rfl, rfl⟩ | ⟨b, cap, cur, rfl, h2, h3, h4, h5, h6, h7⟩
  · have C := Lib.hid (fun W => Try.slices_IndexFunc_empty (α := Int) none 0 (.func (.func 92) #[] #[.pointer (some ⟨B, 0, none⟩)]) W)
    clear h hc hB hlt
    go_enter Try.func91, Try.ntmps91
    go_wp2_with (go_at_call 97; refine (C.out _).mono ?_; rintro e w1 ⟨rfl, rfl⟩)
    go_ret
    exact ⟨_, rfl, IR.nil _ _, rfl, World.grownBy.refl _ _⟩
  · have hne : B ≠ b := fun e => hB (by rw [e]; rfl)
    refine (Try.slices_DeleteFunc (Value.int .i64) (fun _ => rfl) (fun x => x == p) 92 #[.pointer (some ⟨B, 0, none⟩)] (enters_of Try.func92 (by kernel_rfl) rfl) 0 Try.zeroValue3 b 0 cap xs.toArray w
      (fun W x hb => gives92 p x B W ((hb.cell (p := ⟨B, 0, none⟩) hlt).trans hc)) (over92 p B b 0 _ w hlt hne hc) (holds_of_blockI h3 h7) (by simpa using hl) (by simpa using h4)).mono ?_
    rintro e w' ⟨rfl, q, rfl⟩
    have hfl := List.length_filter_le (fun x => !(x == p)) xs
    have hl2 : ((xs.filter fun x => !(x == p)) ++ List.replicate (xs.length - (xs.filter fun x => !(x == p)).length) (0 : Int)).length = xs.length := by simp; omega
    obtain ⟨h8, h9⟩ := putRow_own (q := q) h hl2
    refine ⟨_, rfl, ?_, rfl, h9⟩
    have h10 := IR.take (xs := (xs.filter fun x => !(x == p)) ++ List.replicate (xs.length - (xs.filter fun x => !(x == p)).length) (0 : Int)) (m := (xs.filter fun x => !(x == p)).length) (by rw [hl2]; exact h8) (by omega)
    rwa [take_app _ _ _ rfl] at h10
end Go.Proofs.Ytcdkcnegejhnhaa.Ar
