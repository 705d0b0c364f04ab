/-
  Lists of entries: the place of one, one out, one in place of another one, all out up to a mark.
-/
import Derived.Test.YtcdkcnegejhnhaaLsSt
namespace Go.Proofs.Ytcdkcnegejhnhaa.Ar
open Go.RowKit Go.Proofs.Ytcdkcnegejhnhaa.PAr Go.Proofs.YtcdkcnegejhnhaaW.PrintWords Go.Proofs.YtcdkcnegejhnhaaW.PrintLast Go.Proofs.YtcdkcnegejhnhaaW.PrintMore
set_option linter.unusedVariables false
def findL (xs : List Int) (x : Int) : Int := if x = -1 then -1 else Lib.idxOf xs x
theorem find_calls {w : World} {base b g : Nat} {lv : Value} {xs : List Int} (h : LsAt w base b g lv xs) (hl : xs.length ≤ 1000000) (x : Int) :
    Calls Try.prog 55 #[.pointer (some ⟨b, 0, none⟩), .int .i64 x] w fun e w' => e = .returned (.int .i64 (findL xs x)) ∧ ∃ n, w' = w.drewN n := by
  have CI := Lib.hid (index_calls lv xs x w h.row (by omega))
  obtain ⟨C0, C1⟩ := h.cells
  clear h hl
  by_cases hx : x = -1
  · subst hx
    go_enter Try.func55, Try.ntmps55
    go_wp2
    go_ret
    exact ⟨rfl, 0, rfl⟩
  · have hb : (x == -1) = false := beq_eq_false_iff_ne.2 hx
    have e : findL xs x = Lib.idxOf xs x := if_neg hx
    rw [e]
    clear e hx
    go_enter Try.func55, Try.ntmps55
    go_wp2_with (go_at_call 72; refine CI.out.mono ?_; rintro e w1 ⟨rfl, rfl⟩)
    go_ret
    exact ⟨rfl, 0, rfl⟩
/-- One out. -/
def outL (xs : List Int) (x : Int) : List Int := if 0 ≤ findL xs x then xs.take (findL xs x).toNat ++ xs.drop ((findL xs x).toNat + 1) else xs
/-- One in place of another one. -/
def putL (xs : List Int) (x y : Int) : List Int := if 0 ≤ findL xs x then xs.set (findL xs x).toNat y else xs
theorem idxFrom_bound (x : Int) : ∀ (xs : List Int) (i : Nat), Lib.idxFrom xs x i < ((i + xs.length : Nat) : Int)
  | [], i => by simp only [Lib.idxFrom, List.length_nil]; omega
  | y :: r, i => by
    have := idxFrom_bound x r (i + 1)
    simp only [Lib.idxFrom, List.length_cons]
    split
    · omega
    · omega
theorem idxOf_bound (xs : List Int) (x : Int) : Lib.idxOf xs x < (xs.length : Int) := by
  have := idxFrom_bound x xs 0
  rw [Nat.zero_add] at this
  exact this
theorem findL_lt (xs : List Int) (x : Int) : findL xs x < (xs.length : Int) := by
  unfold findL
  split
  · omega
  · exact idxOf_bound xs x
set_option maxHeartbeats 1000000 in
theorem remove_calls {w : World} {base b g : Nat} {lv : Value} {xs : List Int} (h : LsAt w base b g lv xs) (hl : xs.length ≤ 100000) (x : Int) :
    Calls Try.prog 59 #[.pointer (some ⟨b, 0, none⟩), .int .i64 x] w fun e w' => e = .returned (.tuple #[]) ∧ LsPost w base b g lv (outL xs x) w' := by
  have CF := Lib.hid (find_calls h (by omega) x)
  have hfl := findL_lt xs x
  have L := Lib.hid h
  obtain ⟨C0, C1⟩ := h.cells
  clear h
  by_cases h0 : 0 ≤ findL xs x
  · have ho : outL xs x = xs.take (findL xs x).toNat ++ xs.drop ((findL xs x).toNat + 1) := if_pos h0
    obtain ⟨i, hi⟩ : ∃ i : Nat, findL xs x = (i : Int) := ⟨(findL xs x).toNat, by omega⟩
    rw [hi] at CF ho hfl
    rw [Int.toNat_natCast] at ho
    rw [ho]
    have hil : i < xs.length := by omega
    have i0 : (0 : Int) ≤ (i : Int) := by omega
    have hwi : IntKind.i64.wrap ((i : Int) + 1) = ((i + 1 : Nat) : Int) := by rw [IntWalk.i64_in _ (by omega)]; rfl
    have hwi2 : wrap64 ((i : Int) + 1) = ((i + 1 : Nat) : Int) := by rw [IntWalk.wrap64_in _ (by omega)]; rfl
    obtain ⟨ys, hys⟩ : ∃ ys, xs.take i ++ xs.drop (i + 1) = ys := ⟨_, rfl⟩
    have HD := Lib.hid (fun (W : World) (hW : IR W base lv xs) => show Calls Try.prog 77 #[lv, .int .i64 (i : Int), .int .i64 ((i + 1 : Nat) : Int)] W fun e w' => ∃ v', e = .returned v' ∧ IR w' base v' ys ∧ v'.ownBlock = lv.ownBlock ∧ W.grownBy w' lv.ownBlock by
      rw [← hys]
      exact delete_calls _ xs i W hW hil)
    rw [hys]
    obtain ⟨A, nn, c, rfl⟩ : ∃ A n c, lv = .slice A n c := by
      rcases L.out.row.split with ⟨rfl, _⟩ | ⟨b', cap, cur, rfl, _⟩
      · exact ⟨_, _, _, rfl⟩
      · exact ⟨_, _, _, rfl⟩
    clear h0 hi ho hfl hil hys
    go_enter Try.func59, Try.ntmps59
    go_wp2_with (first
      | (go_at_call 55; refine CF.out.mono ?_; rintro en w1 ⟨rfl, n1, rfl⟩; have L1 := Lib.hid (L.out.below (below_drewN0 w n1)))
      | (go_at_call 77; refine (HD.out _ L1.out.row).mono ?_; rintro en w3 ⟨v3, rfl, h1, h2, h3⟩; obtain ⟨A3, k3, rfl, g3, f3, FF3⟩ := ls_facts L1.out h3 rfl h1 (.inl h2); clear h1 h2 h3))
    go_end0
    exact ⟨rfl, LsPost.of_below (below_drewN0 w n1) ⟨_, FF3.out⟩⟩
  · have ho : outL xs x = xs := if_neg h0
    rw [ho]
    clear ho
    generalize findL xs x = F at *
    have hF : ¬ (0 : Int) ≤ F := h0
    clear h0
    go_enter Try.func59, Try.ntmps59
    go_wp2_with (go_at_call 55; refine CF.out.mono ?_; rintro en w1 ⟨rfl, n1, rfl⟩)
    go_end0
    exact ⟨rfl, LsPost.of_below (below_drewN0 w n1) (LsPost.refl (L.out.below (below_drewN0 w n1)))⟩
set_option maxHeartbeats 1000000 in
theorem replace_calls {w : World} {base b g : Nat} {lv : Value} {xs : List Int} (h : LsAt w base b g lv xs) (hl : xs.length ≤ 100000) (x y : Int) :
    Calls Try.prog 58 #[.pointer (some ⟨b, 0, none⟩), .int .i64 x, .int .i64 y] w fun e w' => e = .returned (.tuple #[]) ∧ LsPost w base b g lv (putL xs x y) w' := by
  have CF := Lib.hid (find_calls h (by omega) x)
  have hfl := findL_lt xs x
  have L := Lib.hid h
  obtain ⟨C0, C1⟩ := h.cells
  by_cases h0 : 0 ≤ findL xs x
  · have ho : putL xs x y = xs.set (findL xs x).toNat y := if_pos h0
    obtain ⟨i, hi⟩ : ∃ i : Nat, findL xs x = (i : Int) := ⟨(findL xs x).toNat, by omega⟩
    rw [hi] at CF ho hfl
    rw [Int.toNat_natCast] at ho
    rw [ho]
    have hil : i < xs.length := by omega
    have i0 : (0 : Int) ≤ (i : Int) := by omega
    have i1 : (i : Int) < (xs.length : Int) := by omega
    rcases h.row.split with ⟨_, e2⟩ | ⟨b', cap, cur, rfl, q1, q2, q3, q4, q5, q6⟩
    · rw [e2] at hil
      simp at hil
    have E2 : w.cell? ⟨b', i, none⟩ = some (.int .i64 (xs.getD i 0)) := by
      have := h.row.cells i hil
      rwa [Nat.zero_add] at this
    have E3 : w.frozen? ⟨b', i, none⟩ = false := blk_frozen q2 i
    have HW2 := Lib.hid (fun (n : Nat) => show LsPost w base b g (.slice (some ⟨b', 0, none⟩) xs.length cap) (xs.set i y) ((w.drewN n).setCell ⟨b', i, none⟩ (.int .i64 y)) from by
      refine ⟨.slice (some ⟨b', 0, none⟩) xs.length cap, ⟨?_, h.le, ?_⟩, fun k hk => .inl hk, ?_⟩
      · exact (Below.heap_setCell (w.drewN n) ⟨b', i, none⟩ _ b (blk_ne h.hb q2 (by decide))).trans h.hb
      · have e1 : (xs.set i y).length = xs.length := List.length_set
        rw [← e1]
        refine IR.mk q1 (blk_set (w := w.drewN n) q2 i _) (by rw [e1]; exact q3) q4 (by simpa using q5) ?_
        rw [e1, Array.toList_setIfInBounds, List.take_set, q6, List.map_set]
      · exact ((Kp.refl _ w).drewN n).setCell (.inr rfl) _)
    clear h h0 hi ho hfl hil q1 q2 q3 q4 q5 q6
    go_enter Try.func58, Try.ntmps58
    go_wp2_with (go_at_call 55; refine CF.out.mono ?_; rintro en w1 ⟨rfl, n1, rfl⟩)
    go_end0
    exact ⟨rfl, HW2.out n1⟩
  · have ho : putL xs x y = xs := if_neg h0
    rw [ho]
    clear ho
    generalize findL xs x = F at *
    have hF : ¬ (0 : Int) ≤ F := h0
    clear h0 h
    go_enter Try.func58, Try.ntmps58
    go_wp2_with (go_at_call 55; refine CF.out.mono ?_; rintro en w1 ⟨rfl, n1, rfl⟩)
    go_end0
    exact ⟨rfl, LsPost.of_below (below_drewN0 w n1) (LsPost.refl (L.out.below (below_drewN0 w n1)))⟩
def clearN (xs : List Int) : Nat := (markAt xs).toNat
theorem clearN_le (xs : List Int) : clearN xs ≤ xs.length := by
  have := markAt_bounds xs
  unfold clearN
  omega
set_option maxRecDepth 100000 in
set_option maxHeartbeats 2000000 in
theorem clear_calls {w : World} {base b g : Nat} {lv : Value} {xs : List Int} (h : LsAt w base b g lv xs) (hl : xs.length ≤ 100000) :
    Calls Try.prog 56 #[.pointer (some ⟨b, 0, none⟩)] w fun e w' => e = .returned (.tuple #[]) ∧ LsPost w base b g lv (xs.take (clearN xs)) w' := by
  have CM := Lib.hid (fun (W : World) (hW : Below w.heap.size w W) => mark_calls (h.below hW) (by omega : xs.length ≤ 9223372036854775807))
  have L := Lib.hid h
  obtain ⟨C0, C1⟩ := h.cells
  have hlt := h.lt
  have hmn : (if markAt xs < 0 then (0 : Int) else markAt xs) = (clearN xs : Int) := by
    unfold clearN
    split <;> omega
  have hmx : max (markAt xs) 0 = (clearN xs : Int) := by
    unfold clearN
    omega
  have hcl := clearN_le xs
  have HB := Lib.hid (Below.refl w.heap.size w)
  generalize hN : clearN xs = N at *
  clear hN
  obtain ⟨A, c, rfl, hac⟩ : ∃ A c, lv = .slice A xs.length c ∧ xs.length ≤ c := by
    rcases h.row.split with ⟨rfl, rfl⟩ | ⟨b', cap, cur, rfl, _, _, h4, _⟩
    · exact ⟨_, _, rfl, Nat.le_refl _⟩
    · exact ⟨_, _, rfl, h4⟩
  have HW2 := Lib.hid (fun (W : World) (hW : Below w.heap.size w W) => show LsPost w base b g (.slice A xs.length c) (xs.take N) (W.setCell ⟨b, 1, none⟩ (.slice A N c)) from by
    have h' := h.below hW
    have hne : ∀ k, (Value.slice A xs.length c).ownBlock = some k → k ≠ b := fun k hk e => by
      subst e
      exact (h.row.typed k hk).ne ⟨_, h.hb⟩ (by decide) rfl
    have ob : (Value.slice A N c).ownBlock = (Value.slice A xs.length c).ownBlock := by cases A <;> rfl
    refine ⟨.slice A N c, ⟨blk_set h'.hb 1 _, h.le, ?_⟩, fun k hk => .inl (by rw [← ob]; exact hk), ?_⟩
    · have h2 : IR W base (.slice A N c) (xs.take N) := by
        rcases h'.row.split with ⟨e1, e2⟩ | ⟨b', cap, cur, e1, q1, q2, q3, q4, q5, q6⟩
        · injection e1 with ha hb hc
          subst ha
          subst hc
          obtain rfl : N = 0 := by rw [e2] at hcl; simpa using hcl
          exact IR.nil _ _
        · injection e1 with ha hb hc
          subst ha
          subst hc
          exact IR.take h'.row N hcl
      exact h2.move fun k hk => Below.heap_setCell W ⟨b, 1, none⟩ _ k (hne k (by rw [← ob]; exact hk))
    · exact (Kp.of_below hW).setCell (.inl rfl) _)
  clear h
  have i1 : (N : Int) ≤ (c : Int) := by omega
  have i0 : (0 : Int) ≤ (N : Int) := by omega
  go_enter Try.func56, Try.ntmps56
  go_wp2_with fail
  go_region_with (go_at_call 75; refine (CM.out _ (bd1 HB.out)).mono ?_; rintro en w1 ⟨rfl, hb1⟩; have B1 := Lib.hid ((bd1 HB.out).trans (hb1.mono (bd1 HB.out).size)); have E1 := (B1.out.cell (p := ⟨b, 1, none⟩) hlt).trans C1; have F1 := blk_frozen (L.out.below B1.out).hb 1)
  all_goals
    go_end0
    exact ⟨rfl, HW2.out _ B1.out⟩
theorem st_find {w : World} {base g b n : Nat} {m : M} {xs : List Int} (h : St w base g b m xs) (gd : Gd m xs n) (hn : n ≤ 99999) (x : Int) :
    Calls Try.prog 55 #[.pointer (some ⟨b, 0, none⟩), .int .i64 x] w fun e w' => e = .returned (.int .i64 (findL xs x)) ∧ ∃ n, w' = w.drewN n := by
  obtain ⟨nv, ev, vs, lv, h1, h2, h3⟩ := h
  exact find_calls h2 (by have := gd.len; omega) x
theorem st_clear {w : World} {base g b n : Nat} {m : M} {xs : List Int} (h : St w base g b m xs) (gd : Gd m xs n) (hn : n ≤ 99999) :
    Calls Try.prog 56 #[.pointer (some ⟨b, 0, none⟩)] w fun en w' => en = .returned (.tuple #[]) ∧ St w' base g b m (xs.take (clearN xs)) ∧ Below base w w' := by
  obtain ⟨nv, ev, vs, lv, h1, h2, h3⟩ := h
  refine (clear_calls h2 (by have := gd.len; omega)).mono ?_
  rintro en w' ⟨rfl, hL⟩
  exact ⟨rfl, St.post h1 h2 h3 hL⟩
theorem st_remove {w : World} {base g b n : Nat} {m : M} {xs : List Int} (h : St w base g b m xs) (gd : Gd m xs n) (hn : n ≤ 99999) (x : Int) :
    Calls Try.prog 59 #[.pointer (some ⟨b, 0, none⟩), .int .i64 x] w fun en w' => en = .returned (.tuple #[]) ∧ St w' base g b m (outL xs x) ∧ Below base w w' := by
  obtain ⟨nv, ev, vs, lv, h1, h2, h3⟩ := h
  refine (remove_calls h2 (by have := gd.len; omega) x).mono ?_
  rintro en w' ⟨rfl, hL⟩
  exact ⟨rfl, St.post h1 h2 h3 hL⟩
theorem st_replace {w : World} {base g b n : Nat} {m : M} {xs : List Int} (h : St w base g b m xs) (gd : Gd m xs n) (hn : n ≤ 99999) (x y : Int) :
    Calls Try.prog 58 #[.pointer (some ⟨b, 0, none⟩), .int .i64 x, .int .i64 y] w fun en w' => en = .returned (.tuple #[]) ∧ St w' base g b m (putL xs x y) ∧ Below base w w' := by
  obtain ⟨nv, ev, vs, lv, h1, h2, h3⟩ := h
  refine (replace_calls h2 (by have := gd.len; omega) x y).mono ?_
  rintro en w' ⟨rfl, hL⟩
  exact ⟨rfl, St.post h1 h2 h3 hL⟩
end Go.Proofs.Ytcdkcnegejhnhaa.Ar
