/-
  Lists of entries: a new one, its entries, a mark more.
-/
import Derived.Test.YtcdkcnegejhnhaaLsMark
import Derived.Test.YtcdkcnegejhnhaaArRead
namespace Go.Proofs.Ytcdkcnegejhnhaa.Ar
open Go.RowKit Go.Proofs.Ytcdkcnegejhnhaa.PAr Go.Proofs.YtcdkcnegejhnhaaW.PrintWords Go.Proofs.YtcdkcnegejhnhaaW.PrintLast Go.Proofs.YtcdkcnegejhnhaaW.PrintMore
set_option linter.unusedVariables false
/-- What an operation on a list leaves. -/
def LsPost2 (w : World) (base b g : Nat) (lv : Value) (xs : List Int) (w' : World) (lv' : Value) : Prop := LsAt w' base b g lv' xs ∧ (∀ k, lv'.ownBlock = some k → lv.ownBlock = some k ∨ w.heap.size ≤ k) ∧ Kp (fun k => k = b ∨ lv.ownBlock = some k) w w'
def LsPost (w : World) (base b g : Nat) (lv : Value) (xs : List Int) (w' : World) : Prop := ∃ lv', LsPost2 w base b g lv xs w' lv'
theorem LsAt.below {w w1 : World} {base b g : Nat} {lv : Value} {xs : List Int} (h : LsAt w base b g lv xs) (hb : Below w.heap.size w w1) : LsAt w1 base b g lv xs where
  hb := by rw [hb.block b h.lt]; exact h.hb
  le := h.le
  row := h.row.move fun k hk => hb.block k (h.row.lt k hk).2
theorem LsPost.of_below {w w1 w2 : World} {base b g : Nat} {lv : Value} {xs : List Int} (hb : Below w.heap.size w w1) (h : LsPost w1 base b g lv xs w2) : LsPost w base b g lv xs w2 := by
  obtain ⟨lv', h1, h2, h3⟩ := h
  exact ⟨lv', h1, fun k hk => (h2 k hk).imp id fun e => Nat.le_trans hb.size e, (Kp.of_below hb).trans' h3⟩
theorem LsPost2.trans {w w1 w2 : World} {base b g : Nat} {lv lv1 : Value} {xs ys : List Int} (h1 : LsPost2 w base b g lv xs w1 lv1) (h2 : LsPost w1 base b g lv1 ys w2) : LsPost w base b g lv ys w2 := by
  obtain ⟨a1, a2, a3⟩ := h1
  obtain ⟨lv2, c1, c2, c3⟩ := h2
  refine ⟨lv2, c1, fun k hk => ?_, Kp.trans a3 (c3.imp fun k hk => ?_)⟩
  · rcases c2 k hk with e | e
    · exact a2 k e
    · exact .inr (Nat.le_trans a3.size e)
  · rcases hk with e | e
    · exact .inl (.inl e)
    · rcases a2 k e with e' | e'
      · exact .inl (.inr e')
      · exact .inr ⟨e', (a1.row.lt k e).2⟩
theorem LsPost.of_drew {w w2 : World} {base b g : Nat} {lv : Value} {xs : List Int} (h : LsPost w.drew base b g lv xs w2) : LsPost w base b g lv xs w2 := h.of_below (Below.drew (Below.refl _ _))
theorem LsPost.refl {w : World} {base b g : Nat} {lv : Value} {xs : List Int} (h : LsAt w base b g lv xs) : LsPost w base b g lv xs w := ⟨lv, h, fun k hk => .inl hk, Kp.refl _ _⟩
theorem ls_facts {W w1 : World} {b g base n : Nat} {xs ys : List Int} {lv v1 : Value} (h : LsAt W base b g lv xs) (hg1 : W.grownBy w1 lv.ownBlock) (hn : n = ys.length)
    (ho1 : w1.ownsRow base 3 1 v1 n (nums .i64 ys)) (hat1 : v1.ownBlock = lv.ownBlock ∨ ∃ b, v1.ownBlock = some b ∧ W.heap.size ≤ b) :
    ∃ A1 k1, v1 = .slice A1 n k1 ∧ w1.cell? ⟨b, 1, none⟩ = some lv ∧ w1.frozen? ⟨b, 1, none⟩ = false ∧ Hid (LsPost2 W base b g lv ys (w1.setCell ⟨b, 1, none⟩ (.slice A1 n k1)) (.slice A1 n k1)) := by
  obtain ⟨A1, k1, rfl⟩ := own_slice ho1
  have G1 := blk_grown h.hb hg1 (own_ne h.row h.hb (by decide))
  refine ⟨A1, k1, rfl, blk_cell G1 1, blk_frozen G1 1, Lib.hid ⟨⟨blk_set G1 1 _, h.le, ?_⟩, fun k hk => ?_, ?_⟩⟩
  · unfold IR
    rw [← hn]
    exact own_setCell ho1 (own_ne ho1 G1 (by decide)) _
  · rcases hat1 with e | ⟨q, e1, e2⟩
    · exact .inl (by rw [← e]; exact hk)
    · rw [e1] at hk
      cases hk
      exact .inr e2
  · exact (Kp.of_grown hg1 (fun k hk => .inr hk)).setCell (.inl rfl) _
set_option maxRecDepth 100000 in
set_option maxHeartbeats 2000000 in
theorem lmark_calls {w : World} {base b g : Nat} {lv : Value} {xs : List Int} (h : LsAt w base b g lv xs) (hb : base ≤ w.heap.size) (hl : xs.length ≤ 1000000) :
    Calls Try.prog 53 #[.pointer (some ⟨b, 0, none⟩)] w fun e w' => e = .returned (.tuple #[]) ∧ LsPost w base b g lv (xs ++ [-1]) w' := by
  have H := Lib.hid h
  have HB := Lib.hid hb
  have HL := Lib.hid hl
  have C1 : w.cell? ⟨b, 1, none⟩ = some lv := h.cells.2
  have C3 : (w.alloc (.cells #[.int .i64 (-1)] 3)).cell? ⟨b, 1, none⟩ = some lv := (World.cell?_alloc_lt _ _ ⟨b, 1, none⟩ h.lt).trans C1
  clear h hb hl
  go_enter Try.func53, Try.ntmps53
  go_wp2_with (refine print_append_num (w0 := w) (W := w) base rfl (.tmp 6) (.tmp 7) 53 3 .i64 8 rfl Try.underlying53 info3 (by decide) lv xs (-1) rfl rfl H.out.row (Below.refl _ _) HB.out (by have := HL.out; omega) ?_; intro v2 w2 ho2 _ hg2 hat2; rw [List.length_append, List.length_singleton] at ho2; obtain ⟨A2, k2, rfl, g2, f2, FF⟩ := ls_facts H.out hg2 (by simp) ho2 hat2; clear ho2 hg2 hat2)
  go_end0
  exact ⟨rfl, _, FF.out⟩
theorem lnew_calls (w : World) (g base : Nat) (hb : base ≤ w.heap.size) : Calls Try.prog 31 #[.pointer (some ⟨g, 0, none⟩)] w fun e w' => e = .returned (.pointer (some ⟨w.heap.size, 0, none⟩)) ∧ LsAt w' base w.heap.size g (.slice none 0 0) [] ∧ Below w.heap.size w w' := by
  have HB := Lib.hid hb
  clear hb
  go_enter Try.func31, Try.ntmps31
  go_wp2
  go_ret
  exact ⟨rfl, ⟨heap_alloc_new _ _, HB.out, IR.nil _ _⟩, (Below.refl _ _).alloc (Nat.le_refl _) _⟩
theorem all_calls {w : World} {base b g : Nat} {lv : Value} {xs : List Int} (h : LsAt w base b g lv xs) (hl : xs.length ≤ 1000000) :
    Calls Try.prog 35 #[.pointer (some ⟨b, 0, none⟩)] w fun e w' => ∃ v', e = .returned v' ∧ IR w' w.heap.size v' xs ∧ Below w.heap.size w w' := by
  have CC := Lib.hid (clone_calls lv xs w h.row (by omega))
  obtain ⟨C0, C1⟩ := h.cells
  clear h hl
  go_enter Try.func35, Try.ntmps35
  go_wp2_with (go_at_call 74; refine CC.out.mono ?_; rintro e w1 ⟨v1, rfl, h1, h2⟩; have H1 := Lib.hid h1; have H2 := Lib.hid h2; clear h1 h2)
  go_ret
  exact ⟨_, rfl, H1.out, H2.out⟩
end Go.Proofs.Ytcdkcnegejhnhaa.Ar
