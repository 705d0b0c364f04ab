-- Laid by a program of this session (tools/patch_print.py) out of the translation. Not trusted: Lean checks it.
import Derived.Test.YtfkgklbaafbbiaaDoorPCapsx0
import Derived.Test.YtfkgklbaafbbiaaDoorPCapsx1
namespace Go.Proofs.YtfkgklbaafbbiaaDoor.PCaps
open Go.RowKit Go.Proofs.YtfkgklbaafbbiaaDoorW.PrintWords Go.Proofs.YtfkgklbaafbbiaaDoorW.PrintLast Go.Proofs.YtfkgklbaafbbiaaDoorW.PrintMore
attribute [local go_sem] max2_int min2_int max_two min_two max_three min_three max_four min_four   -- for this text's walks alone
set_option linter.unusedVariables false
set_option linter.unusedSimpArgs false

/-! ### decanterlaw16_Of: function 10 -/
def decanterlaw16_Of.f (k : Nat) (a0_0 : Int) (a0_1 : ByteArray) (l0_2 : List (S91)) (a0_3 : ByteArray) (a0_4 : Int) (a0_5 : Int) : Option (Int × ByteArray × (List (S92)) × ByteArray × Int × Int) := (decanterlaw06_Of.f k l0_2).bind fun t113 => (some (a0_0, a0_1, t113, a0_3, a0_4, a0_5))
theorem decanterlaw16_Of.mono : ∀ a0 a1 a2 a3 a4 a5 k, LeO (decanterlaw16_Of.f k a0 a1 a2 a3 a4 a5) (decanterlaw16_Of.f (k + 1) a0 a1 a2 a3 a4 a5) := by
  intro a0 a1 a2 a3 a4 a5 k
  unfold decanterlaw16_Of.f
  repeat' first
      | (with_reducible exact decanterlaw06_Of.mono _ _)
      | (with_reducible exact LeO.refl _)
      | (with_reducible exact LeO.none _)
      | (with_reducible refine LeO.ite ?_ ?_)
      | (with_reducible refine LeO.bind ?_ (fun _ => ?_))
      | exact decanterlaw06_Of.mono _ _
      | exact LeO.none _
      | refine LeO.ite ?_ ?_
      | refine LeO.bind ?_ (fun _ => ?_)
def decanterlaw16_Of.T1 : Bool × List (List Nat × List Nat) := (true, [([], []), ([0], [0]), ([], []), ([2], [2]), ([], []), ([4], [4]), ([5], [5]), ([], []), ([7], [7]), ([], []), ([9], [9]), ([], []), ([11], [11]), ([1, 3, 6, 8, 10, 12], [1, 3, 6, 8, 10, 12]), ([13, 6, 0, 1, 2, 3, 4, 5, 6, 7, 8, 9, 10, 11, 12, 13], [13])])
def decanterlaw16_Of.B1 : List Nat := [0, 1, 0, 4, 0, 16, 48, 0, 128, 0, 512, 0, 2048, 8191, 16383]
theorem decanterlaw16_Of.tab1 : rtab .any (opsOf Tryd.f10 1) = decanterlaw16_Of.T1 := by kernel_rfl
theorem decanterlaw16_Of.bits1 : waitsOk decanterlaw16_Of.T1.2 decanterlaw16_Of.B1 = true := by kernel_rfl
set_option maxHeartbeats 8000000 in
set_option maxRecDepth 100000 in
theorem decanterlaw16_Of.calls (k : Nat) (a0_0 : Int) (a0_1 : ByteArray) (A0_2 : Option Addr) (c0_2 : Nat) (l0_2 : List (S91)) (a0_3 : ByteArray) (a0_4 : Int) (a0_5 : Int) (r1 : Int) (r2 : ByteArray) (r3 : List (S92)) (r4 : ByteArray) (r5 : Int) (r6 : Int) (w : World) (hr0_2 : Kd.C k91 w A0_2 l0_2.length l0_2) (hc0_2 : l0_2.length ≤ c0_2) (h : decanterlaw16_Of.f k a0_0 a0_1 l0_2 a0_3 a0_4 a0_5 = some (r1, r2, r3, r4, r5, r6)) :
    Calls Tryd.prog 10 #[.agg #[.int .i64 a0_0, .string a0_1, .slice A0_2 l0_2.length c0_2, .string a0_3, .int .i64 a0_4, .int .i64 a0_5]] w fun e w' => ∃ v2_ : Value, e = .returned (.agg #[.int .i64 r1, .string r2, v2_, .string r4, .int .i64 r5, .int .i64 r6]) ∧ Kd.R k92 92 w' w.heap.size (fun _ => True) v2_ r3 ∧ Below w.heap.size w w' := by
  have hu28 := Tryd.underlying28
  have hu37 := Tryd.underlying37
  have HR0_2 := Aside0.mk hr0_2
  have HC0_2 := Aside0.mk hc0_2
  clear hr0_2 hc0_2
  have HB := Aside0.mk (Below.refl w.heap.size w)
  have H : ((decanterlaw06_Of.f k l0_2).bind fun t113 => (some (a0_0, a0_1, t113, a0_3, a0_4, a0_5))) = some (r1, r2, r3, r4, r5, r6) := h
  clear h
  replace H := Option.bind_eq_some_iff.mp H
  obtain ⟨t113, A20, H⟩ := H
  replace H : (some (a0_0, a0_1, t113, a0_3, a0_4, a0_5)) = some (r1, r2, r3, r4, r5, r6) := H
  have A2 := Aside0.mk A20
  clear A20
  simp only [Option.some.injEq, Prod.mk.injEq] at H
  obtain ⟨rfl, rfl, rfl, rfl, rfl, rfl⟩ := H
  go_enter Tryd.func10, Tryd.ntmps10
  try go_wp2_with (first | ((with_reducible refine gate_dst (N := 1) rfl ?_); refine box_event ?hg (N := 1) ?hd (cs := #[.int .i64 a0_0, .string a0_1, .slice A0_2 l0_2.length c0_2, .string a0_3, .int .i64 a0_4, .int .i64 a0_5]) (t := 28) ?hr ?_; (case hd => rfl); (case hg => rfl); (case hr => first | (go_simp; done) | (go_simp; rfl)); intro gb111 hg w3 hbox hb; have n0_ := Aside0.mk (below_step (by repeat (first | (with_reducible first | exact HB.out | apply below_alloc | apply pw_below_drewN | apply below_drew1) | exact HB.out)) hb); have n1_ := Aside0.mk (hbox); have n2_ := Aside0.mk ((by rw [hg]; exact (below_size (by repeat (first | (with_reducible first | exact HB.out | apply below_alloc | apply pw_below_drewN | apply below_drew1) | exact HB.out))) : w.heap.size ≤ gb111)); have n3_ := Aside0.mk ((by rw [hg]; exact (below_size (by repeat (first | (with_reducible first | exact HB.out | apply below_alloc | apply pw_below_drewN | apply below_drew1) | exact HB.out))) : w.heap.size ≤ gb111)); clear HB; have HB := n0_; have BK111 := n1_; have GW111 := n2_; have GE111 := n3_; clear n0_ n1_ n2_ n3_; clear hb hbox hg) | ((with_reducible refine gate_dst (N := 2) rfl ?_); refine box_event ?hg (N := 2) ?hd (cs := #[.int .i64 0, .string (⟨#[]⟩ : ByteArray), .slice none 0 0, .string (⟨#[]⟩ : ByteArray), .int .i64 0, .int .i64 0]) (t := 37) ?hr ?_; (case hd => rfl); (case hg => rfl); (case hr => first | (go_simp; done) | (go_simp; rfl)); intro gb112 hg w4 hbox hb; have n0_ := Aside0.mk (blk_below (g := gb111) (o := .cells #[.int .i64 a0_0, .string a0_1, .slice A0_2 l0_2.length c0_2, .string a0_3, .int .i64 a0_4, .int .i64 a0_5] 28 (0, 0)) (by (with_reducible repeat (first | refine blk_drewN ?_ _ | refine blk_drew ?_ | refine blk_alloc ?_ _)); exact BK111.out) hb); have n1_ := Aside0.mk (below_step (by repeat (first | (with_reducible first | exact HB.out | apply below_alloc | apply pw_below_drewN | apply below_drew1 | refine below_set ?_ GE111.out) | exact HB.out)) hb); have n2_ := Aside0.mk (hbox); have n3_ := Aside0.mk ((by rw [hg]; exact (below_size (by repeat (first | (with_reducible first | exact HB.out | apply below_alloc | apply pw_below_drewN | apply below_drew1 | refine below_set ?_ GE111.out) | exact HB.out))) : w.heap.size ≤ gb112)); have n4_ := Aside0.mk ((by rw [hg]; exact (below_size (by repeat (first | (with_reducible first | exact HB.out | apply below_alloc | apply pw_below_drewN | apply below_drew1 | refine below_set ?_ GE111.out) | exact HB.out))) : w.heap.size ≤ gb112)); have n5_ := Aside0.mk ((by rw [hg]; exact Nat.ne_of_lt (blk_lt (g := gb111) (o := .cells #[.int .i64 a0_0, .string a0_1, .slice A0_2 l0_2.length c0_2, .string a0_3, .int .i64 a0_4, .int .i64 a0_5] 28 (0, 0)) (by (with_reducible repeat (first | refine blk_drewN ?_ _ | refine blk_drew ?_ | refine blk_alloc ?_ _)); exact BK111.out)) : gb111 ≠ gb112)); have n6_ := Aside0.mk ((by rw [hg]; exact Nat.ne_of_gt (blk_lt (g := gb111) (o := .cells #[.int .i64 a0_0, .string a0_1, .slice A0_2 l0_2.length c0_2, .string a0_3, .int .i64 a0_4, .int .i64 a0_5] 28 (0, 0)) (by (with_reducible repeat (first | refine blk_drewN ?_ _ | refine blk_drew ?_ | refine blk_alloc ?_ _)); exact BK111.out)) : gb112 ≠ gb111)); clear BK111; clear HB; have BK111 := n0_; have HB := n1_; have BK112 := n2_; have GW112 := n3_; have GE112 := n4_; have NB111_112 := n5_; have NB112_111 := n6_; clear n0_ n1_ n2_ n3_ n4_ n5_ n6_; clear hb hbox hg))
  have n0_ := Aside0.mk (blk_drew BK111.out)
  have n1_ := Aside0.mk (blk_drew BK112.out)
  have n2_ := Aside0.mk (below_drew1 HB.out)
  clear BK111
  clear BK112
  clear HB
  have BK111 := n0_
  have BK112 := n1_
  have HB := n2_
  clear n0_ n1_ n2_
  refine start_ (n := 15) (S := fun w' => w'.cell? ⟨gb111, 0, none⟩ = some (.int .i64 a0_0) ∧ w'.cell? ⟨gb111, 1, none⟩ = some (.string a0_1) ∧ w'.cell? ⟨gb111, 2, none⟩ = some (.slice A0_2 l0_2.length c0_2) ∧ w'.cell? ⟨gb111, 3, none⟩ = some (.string a0_3) ∧ w'.cell? ⟨gb111, 4, none⟩ = some (.int .i64 a0_4) ∧ w'.cell? ⟨gb111, 5, none⟩ = some (.int .i64 a0_5)) (ds := []) #[false, false, false, false, false, false, false, false, false, false, false, false, false, false, false] (by kernel_rfl) rfl rfl ⟨(blk_cell BK111.out 0).trans rfl, (blk_cell BK111.out 1).trans rfl, (blk_cell BK111.out 2).trans rfl, (blk_cell BK111.out 3).trans rfl, (blk_cell BK111.out 4).trans rfl, (blk_cell BK111.out 5).trans rfl⟩ (fun hHeld => ?_); refine with_tabW decanterlaw16_Of.tab1 decanterlaw16_Of.bits1 (fun HT_ HW_ => ?_)
  generalize w4.drew = w5 at BK111 BK112 HB hHeld ⊢
  refine pure_ (i := 0) (N := some 3) (v := ?_) (a' := ?_) #[true, false, false, false, false, false, false, false, false, false, false, false, false, false, false] rfl rfl (any_of HT_.out (by kernel_rfl)) (fun _ _ _ h => h) (Or.inl ⟨by rfl, ?_⟩) ?_ ?_
  rotate_left
  · intro w'
    go_simp
    with_reducible rfl
  rotate_left
  · simp only [Act.put, List.setIfInBounds_toArray, List.set_cons_zero, List.set_cons_succ, i64_w, i32_w]
    rfl
  refine pure_ (i := 2) (N := some 5) (v := ?_) (a' := ?_) #[true, false, true, false, false, false, false, false, false, false, false, false, false, false, false] rfl rfl (any_of HT_.out (by kernel_rfl)) (fun _ _ _ h => h) (Or.inl ⟨by rfl, ?_⟩) ?_ ?_
  rotate_left
  · intro w'
    go_simp
    with_reducible rfl
  rotate_left
  · simp only [Act.put, List.setIfInBounds_toArray, List.set_cons_zero, List.set_cons_succ, i64_w, i32_w]
    rfl
  refine pure_ (i := 4) (N := some 7) (v := ?_) (a' := ?_) #[true, false, true, false, true, false, false, false, false, false, false, false, false, false, false] rfl rfl (any_of HT_.out (by kernel_rfl)) (fun _ _ _ h => h) (Or.inl ⟨by rfl, ?_⟩) ?_ ?_
  rotate_left
  · intro w'
    go_simp
    with_reducible rfl
  rotate_left
  · simp only [Act.put, List.setIfInBounds_toArray, List.set_cons_zero, List.set_cons_succ, i64_w, i32_w]
    rfl
  refine pure_ (i := 7) (N := some 10) (v := ?_) (a' := ?_) #[true, false, true, false, true, false, false, true, false, false, false, false, false, false, false] rfl rfl (any_of HT_.out (by kernel_rfl)) (fun _ _ _ h => h) (Or.inl ⟨by rfl, ?_⟩) ?_ ?_
  rotate_left
  · intro w'
    go_simp
    with_reducible rfl
  rotate_left
  · simp only [Act.put, List.setIfInBounds_toArray, List.set_cons_zero, List.set_cons_succ, i64_w, i32_w]
    rfl
  refine pure_ (i := 9) (N := some 12) (v := ?_) (a' := ?_) #[true, false, true, false, true, false, false, true, false, true, false, false, false, false, false] rfl rfl (any_of HT_.out (by kernel_rfl)) (fun _ _ _ h => h) (Or.inl ⟨by rfl, ?_⟩) ?_ ?_
  rotate_left
  · intro w'
    go_simp
    with_reducible rfl
  rotate_left
  · simp only [Act.put, List.setIfInBounds_toArray, List.set_cons_zero, List.set_cons_succ, i64_w, i32_w]
    rfl
  refine pure_ (i := 11) (N := some 14) (v := ?_) (a' := ?_) #[true, false, true, false, true, false, false, true, false, true, false, true, false, false, false] rfl rfl (any_of HT_.out (by kernel_rfl)) (fun _ _ _ h => h) (Or.inl ⟨by rfl, ?_⟩) ?_ ?_
  rotate_left
  · intro w'
    go_simp
    with_reducible rfl
  rotate_left
  · simp only [Act.put, List.setIfInBounds_toArray, List.set_cons_zero, List.set_cons_succ, i64_w, i32_w]
    rfl
  refine take_ (i := 1) (N := some 4) (v := ?_) (a' := ?_) #[true, true, true, false, true, false, false, true, false, true, false, true, false, false, false] rfl rfl (take_ofW HT_.out HW_.out (by kernel_rfl)) (fun _ _ _ h => h) (Or.inl ⟨by rfl, ?_⟩) hHeld ?_ ?_
  rotate_left
  · rintro w' ⟨s0, s1, s2, s3, s4, s5⟩
    go_simp
    with_reducible rfl
  rotate_left
  · simp only [Act.put, List.setIfInBounds_toArray, List.set_cons_zero, List.set_cons_succ, i64_w, i32_w]
    rfl
  refine take_ (i := 3) (N := some 6) (v := ?_) (a' := ?_) #[true, true, true, true, true, false, false, true, false, true, false, true, false, false, false] rfl rfl (take_ofW HT_.out HW_.out (by kernel_rfl)) (fun _ _ _ h => h) (Or.inl ⟨by rfl, ?_⟩) hHeld ?_ ?_
  rotate_left
  · rintro w' ⟨s0, s1, s2, s3, s4, s5⟩
    go_simp
    with_reducible rfl
  rotate_left
  · simp only [Act.put, List.setIfInBounds_toArray, List.set_cons_zero, List.set_cons_succ, i64_w, i32_w]
    rfl
  refine take_ (i := 5) (N := some 8) (v := ?_) (a' := ?_) #[true, true, true, true, true, true, false, true, false, true, false, true, false, false, false] rfl rfl (take_ofW HT_.out HW_.out (by kernel_rfl)) (fun _ _ _ h => h) (Or.inl ⟨by rfl, ?_⟩) hHeld ?_ ?_
  rotate_left
  · rintro w' ⟨s0, s1, s2, s3, s4, s5⟩
    go_simp
    with_reducible rfl
  rotate_left
  · simp only [Act.put, List.setIfInBounds_toArray, List.set_cons_zero, List.set_cons_succ, i64_w, i32_w]
    rfl
  refine take_ (i := 8) (N := some 11) (v := ?_) (a' := ?_) #[true, true, true, true, true, true, false, true, true, true, false, true, false, false, false] rfl rfl (take_ofW HT_.out HW_.out (by kernel_rfl)) (fun _ _ _ h => h) (Or.inl ⟨by rfl, ?_⟩) hHeld ?_ ?_
  rotate_left
  · rintro w' ⟨s0, s1, s2, s3, s4, s5⟩
    go_simp
    with_reducible rfl
  rotate_left
  · simp only [Act.put, List.setIfInBounds_toArray, List.set_cons_zero, List.set_cons_succ, i64_w, i32_w]
    rfl
  refine take_ (i := 10) (N := some 13) (v := ?_) (a' := ?_) #[true, true, true, true, true, true, false, true, true, true, true, true, false, false, false] rfl rfl (take_ofW HT_.out HW_.out (by kernel_rfl)) (fun _ _ _ h => h) (Or.inl ⟨by rfl, ?_⟩) hHeld ?_ ?_
  rotate_left
  · rintro w' ⟨s0, s1, s2, s3, s4, s5⟩
    go_simp
    with_reducible rfl
  rotate_left
  · simp only [Act.put, List.setIfInBounds_toArray, List.set_cons_zero, List.set_cons_succ, i64_w, i32_w]
    rfl
  refine take_ (i := 12) (N := some 15) (v := ?_) (a' := ?_) #[true, true, true, true, true, true, false, true, true, true, true, true, true, false, false] rfl rfl (take_ofW HT_.out HW_.out (by kernel_rfl)) (fun _ _ _ h => h) (Or.inl ⟨by rfl, ?_⟩) hHeld ?_ ?_
  rotate_left
  · rintro w' ⟨s0, s1, s2, s3, s4, s5⟩
    go_simp
    with_reducible rfl
  rotate_left
  · simp only [Act.put, List.setIfInBounds_toArray, List.set_cons_zero, List.set_cons_succ, i64_w, i32_w]
    rfl
  refine one_ (i := 6) (N := some 9) #[true, true, true, true, true, true, true, true, true, true, true, true, true, false, false] rfl rfl (one_of HT_.out (by kernel_rfl)) (by decide) (fun K hK => ?_)
  refine goes_ Tryd.func26 (by kernel_rfl) rfl #[.slice A0_2 l0_2.length c0_2] (by rfl) rfl rfl (by (try simp only [List.map_toArray, List.map_cons, List.map_nil]); first | done | rfl | (simp only [List.length_drop, List.length_take]; rfl)) ?_
  with_reducible refine (decanterlaw06_Of.calls k _ _ l0_2 t113 _ ?side1 ?side2 A2.out).mono ?_
  (case side1 => repeat (first | exact (Kd.C_below HR0_2.out HB.out) | (with_reducible refine Kd.C_alloc ?_ _) | (with_reducible refine Kd.C_drewN ?_ _) | (with_reducible refine Kd.C_drew ?_)))
  (case side2 => exact HC0_2.out)
  rintro e w6 ⟨v114, rfl, ho0, hb⟩
  refine ⟨_, rfl, ?_⟩
  have n0_ := Aside0.mk (Kd.R_lower ho0 (below_size (by repeat (first | (with_reducible first | exact HB.out | apply below_alloc | apply pw_below_drewN | apply below_drew1 | refine below_set ?_ GE111.out | refine below_set ?_ GE112.out) | exact HB.out))))
  have n1_ := Aside0.mk (blk_below (g := gb111) (o := .cells #[.int .i64 a0_0, .string a0_1, .slice A0_2 l0_2.length c0_2, .string a0_3, .int .i64 a0_4, .int .i64 a0_5] 28 (0, 0)) (by (with_reducible repeat (first | refine blk_drewN ?_ _ | refine blk_drew ?_ | refine blk_alloc ?_ _)); exact BK111.out) hb)
  have n2_ := Aside0.mk (blk_below (g := gb112) (o := .cells #[.int .i64 0, .string (⟨#[]⟩ : ByteArray), .slice none 0 0, .string (⟨#[]⟩ : ByteArray), .int .i64 0, .int .i64 0] 37 (0, 0)) (by (with_reducible repeat (first | refine blk_drewN ?_ _ | refine blk_drew ?_ | refine blk_alloc ?_ _)); exact BK112.out) hb)
  have n3_ := Aside0.mk (below_step (by repeat (first | (with_reducible first | exact HB.out | apply below_alloc | apply pw_below_drewN | apply below_drew1 | refine below_set ?_ GE111.out | refine below_set ?_ GE112.out) | exact HB.out)) hb)
  clear BK111
  clear BK112
  clear HB
  have HO115 := n0_
  have BK111 := n1_
  have BK112 := n2_
  have HB := n3_
  clear n0_ n1_ n2_ n3_
  (try clear hb)
  (try clear hb2)
  (try clear hk)
  (try clear hi)
  (try clear ho0)
  obtain ⟨Ao7, co7, eo7⟩ := Kd.R_slice HO115.out
  (first | subst eo7 | (injection eo7 with f1_ f2_ f3_; have f4_ := f1_.symm; have f5_ := f3_.symm; clear f1_ f2_ f3_; subst f4_; subst f5_))
  refine hK.out _ _ ⟨(blk_cell BK111.out 0).trans rfl, (blk_cell BK111.out 1).trans rfl, (blk_cell BK111.out 2).trans rfl, (blk_cell BK111.out 3).trans rfl, (blk_cell BK111.out 4).trans rfl, (blk_cell BK111.out 5).trans rfl⟩ (fun hHeld => ?_)
  clear hK K
  refine norm_ (a' := ?_) ?_ ?_
  rotate_left
  · show Act.put _ (some 9) _ = _
    simp only [Act.put, List.setIfInBounds_toArray, List.set_cons_zero, List.set_cons_succ, i64_w, i32_w]
    rfl
  refine pure_ (i := 13) (N := some 16) (v := ?_) (a' := ?_) #[true, true, true, true, true, true, true, true, true, true, true, true, true, true, false] rfl rfl (any_of HT_.out (by kernel_rfl)) (fun _ _ _ h => h) (Or.inl ⟨by rfl, ?_⟩) ?_ ?_
  rotate_left
  · intro w'
    go_simp
    with_reducible rfl
  rotate_left
  · simp only [Act.put, List.setIfInBounds_toArray, List.set_cons_zero, List.set_cons_succ, i64_w, i32_w]
    rfl
  refine one_ (i := 14) (N := none) #[true, true, true, true, true, true, true, true, true, true, true, true, true, true, true] rfl rfl (one_of HT_.out (by kernel_rfl)) (by decide) (fun K hK => ?_)
  have hs8 : w6.cell? ⟨gb112, 0, none⟩ = some (.int .i64 0) := (blk_cell BK112.out 0).trans rfl
  have hfs8 := blk_frozen BK112.out 0
  have hns8_0 := NB111_112.out
  have hms8_0 := NB112_111.out
  have hs9 : w6.cell? ⟨gb112, 1, none⟩ = some (.string (⟨#[]⟩ : ByteArray)) := (blk_cell BK112.out 1).trans rfl
  have hfs9 := blk_frozen BK112.out 1
  have hns9_0 := NB111_112.out
  have hms9_0 := NB112_111.out
  have hs10 : w6.cell? ⟨gb112, 2, none⟩ = some (.slice none 0 0) := (blk_cell BK112.out 2).trans rfl
  have hfs10 := blk_frozen BK112.out 2
  have hns10_0 := NB111_112.out
  have hms10_0 := NB112_111.out
  have hs11 : w6.cell? ⟨gb112, 3, none⟩ = some (.string (⟨#[]⟩ : ByteArray)) := (blk_cell BK112.out 3).trans rfl
  have hfs11 := blk_frozen BK112.out 3
  have hns11_0 := NB111_112.out
  have hms11_0 := NB112_111.out
  have hs12 : w6.cell? ⟨gb112, 4, none⟩ = some (.int .i64 0) := (blk_cell BK112.out 4).trans rfl
  have hfs12 := blk_frozen BK112.out 4
  have hns12_0 := NB111_112.out
  have hms12_0 := NB112_111.out
  have hs13 : w6.cell? ⟨gb112, 5, none⟩ = some (.int .i64 0) := (blk_cell BK112.out 5).trans rfl
  have hfs13 := blk_frozen BK112.out 5
  have hns13_0 := NB111_112.out
  have hms13_0 := NB112_111.out
  refine skip_ (w1 := ?_) (by rfl) rfl ?_ ?_
  rotate_left
  · go_simp
    rfl
  refine hK.out _ _ ⟨((cell_far (p := ⟨gb112, _, none⟩) NB111_112.out _).trans (((cell_far (p := ⟨gb112, _, none⟩) NB111_112.out _).trans (((cell_far (p := ⟨gb112, _, none⟩) NB111_112.out _).trans (((cell_far (p := ⟨gb112, _, none⟩) NB111_112.out _).trans (((cell_far (p := ⟨gb112, _, none⟩) NB111_112.out _).trans (((cell_far (p := ⟨gb112, _, none⟩) NB111_112.out _).trans (hHeld.1)))))))))))), ((cell_far (p := ⟨gb112, _, none⟩) NB111_112.out _).trans (((cell_far (p := ⟨gb112, _, none⟩) NB111_112.out _).trans (((cell_far (p := ⟨gb112, _, none⟩) NB111_112.out _).trans (((cell_far (p := ⟨gb112, _, none⟩) NB111_112.out _).trans (((cell_far (p := ⟨gb112, _, none⟩) NB111_112.out _).trans (((cell_far (p := ⟨gb112, _, none⟩) NB111_112.out _).trans (hHeld.2.1)))))))))))), ((cell_far (p := ⟨gb112, _, none⟩) NB111_112.out _).trans (((cell_far (p := ⟨gb112, _, none⟩) NB111_112.out _).trans (((cell_far (p := ⟨gb112, _, none⟩) NB111_112.out _).trans (((cell_far (p := ⟨gb112, _, none⟩) NB111_112.out _).trans (((cell_far (p := ⟨gb112, _, none⟩) NB111_112.out _).trans (((cell_far (p := ⟨gb112, _, none⟩) NB111_112.out _).trans (hHeld.2.2.1)))))))))))), ((cell_far (p := ⟨gb112, _, none⟩) NB111_112.out _).trans (((cell_far (p := ⟨gb112, _, none⟩) NB111_112.out _).trans (((cell_far (p := ⟨gb112, _, none⟩) NB111_112.out _).trans (((cell_far (p := ⟨gb112, _, none⟩) NB111_112.out _).trans (((cell_far (p := ⟨gb112, _, none⟩) NB111_112.out _).trans (((cell_far (p := ⟨gb112, _, none⟩) NB111_112.out _).trans (hHeld.2.2.2.1)))))))))))), ((cell_far (p := ⟨gb112, _, none⟩) NB111_112.out _).trans (((cell_far (p := ⟨gb112, _, none⟩) NB111_112.out _).trans (((cell_far (p := ⟨gb112, _, none⟩) NB111_112.out _).trans (((cell_far (p := ⟨gb112, _, none⟩) NB111_112.out _).trans (((cell_far (p := ⟨gb112, _, none⟩) NB111_112.out _).trans (((cell_far (p := ⟨gb112, _, none⟩) NB111_112.out _).trans (hHeld.2.2.2.2.1)))))))))))), ((cell_far (p := ⟨gb112, _, none⟩) NB111_112.out _).trans (((cell_far (p := ⟨gb112, _, none⟩) NB111_112.out _).trans (((cell_far (p := ⟨gb112, _, none⟩) NB111_112.out _).trans (((cell_far (p := ⟨gb112, _, none⟩) NB111_112.out _).trans (((cell_far (p := ⟨gb112, _, none⟩) NB111_112.out _).trans (((cell_far (p := ⟨gb112, _, none⟩) NB111_112.out _).trans (hHeld.2.2.2.2.2))))))))))))⟩ (fun hHeld => ?_)
  clear hK K
  refine done_ (done_of HT_.out (by kernel_rfl)) ?_
  try go_wp2
  refine bodyPost_ret (results_cell_row rfl _ _ gb112 37 #[.int .i64 a0_0, .string a0_1, .slice Ao7 t113.length co7, .string a0_3, .int .i64 a0_4, .int .i64 a0_5] (0, 0) _ rfl (by (with_reducible repeat (first | refine blk_drewN ?_ _ | refine blk_drew ?_ | refine blk_alloc ?_ _)); refine blk_put (cs := #[.int .i64 a0_0, .string a0_1, .slice Ao7 t113.length co7, .string a0_3, .int .i64 a0_4, .int .i64 0]) ?_ 5 _ rfl; (with_reducible repeat (first | refine blk_drewN ?_ _ | refine blk_drew ?_ | refine blk_alloc ?_ _)); refine blk_put (cs := #[.int .i64 a0_0, .string a0_1, .slice Ao7 t113.length co7, .string a0_3, .int .i64 0, .int .i64 0]) ?_ 4 _ rfl; (with_reducible repeat (first | refine blk_drewN ?_ _ | refine blk_drew ?_ | refine blk_alloc ?_ _)); refine blk_put (cs := #[.int .i64 a0_0, .string a0_1, .slice Ao7 t113.length co7, .string (⟨#[]⟩ : ByteArray), .int .i64 0, .int .i64 0]) ?_ 3 _ rfl; (with_reducible repeat (first | refine blk_drewN ?_ _ | refine blk_drew ?_ | refine blk_alloc ?_ _)); refine blk_put (cs := #[.int .i64 a0_0, .string a0_1, .slice none 0 0, .string (⟨#[]⟩ : ByteArray), .int .i64 0, .int .i64 0]) ?_ 2 _ rfl; (with_reducible repeat (first | refine blk_drewN ?_ _ | refine blk_drew ?_ | refine blk_alloc ?_ _)); refine blk_put (cs := #[.int .i64 a0_0, .string (⟨#[]⟩ : ByteArray), .slice none 0 0, .string (⟨#[]⟩ : ByteArray), .int .i64 0, .int .i64 0]) ?_ 1 _ rfl; (with_reducible repeat (first | refine blk_drewN ?_ _ | refine blk_drew ?_ | refine blk_alloc ?_ _)); refine blk_put (cs := #[.int .i64 0, .string (⟨#[]⟩ : ByteArray), .slice none 0 0, .string (⟨#[]⟩ : ByteArray), .int .i64 0, .int .i64 0]) ?_ 0 _ rfl; (with_reducible repeat (first | refine blk_drewN ?_ _ | refine blk_drew ?_ | refine blk_alloc ?_ _)); exact BK112.out) Tryd.underlying37 rfl (by kernel_rfl)) rfl ?_
  exact ⟨_, by first | rfl | (simp [errW_none, errW_some] <;> rfl) | (simp [*, errW_none, errW_some] <;> rfl), by (with_reducible repeat (first | apply Kd.R_alloc | apply Kd.R_drewN | apply Kd.R_drew)); exact Kd.R_mono (Kd.R_far (p := ⟨gb112, 5, none⟩) (Kd.R_far (p := ⟨gb112, 4, none⟩) (Kd.R_far (p := ⟨gb112, 3, none⟩) (Kd.R_far (p := ⟨gb112, 2, none⟩) (Kd.R_far (p := ⟨gb112, 1, none⟩) (Kd.R_far (p := ⟨gb112, 0, none⟩) (Kd.R_types HO115.out BK112.out (by decide)) (fun _ hk => hk.2) (.int .i64 a0_0)) (fun _ hk => hk.2) (.string a0_1)) (fun _ hk => hk.2) (.slice Ao7 t113.length co7)) (fun _ hk => hk.2) (.string a0_3)) (fun _ hk => hk.2) (.int .i64 a0_4)) (fun _ hk => hk.2) (.int .i64 a0_5)) (fun _ hk => trivial), by repeat (first | (with_reducible first | exact HB.out | apply below_alloc | apply pw_below_drewN | apply below_drew1 | refine below_set ?_ GE111.out | refine below_set ?_ GE112.out) | exact HB.out)⟩

/-! ### decanterref23_Price: function 12 -/
def decanterref23_Price.f (a0_0 : Int) (a0_1 : Int) (a0_2 : Int) (a1_0 : Int) (a1_1 : ByteArray) (l1_2 : List (S91)) (a1_3 : ByteArray) (a1_4 : Int) (a1_5 : Int) : Option (Int) := some (wrap64 ((wrap64 ((wrap64 ((wrap64 (1 + (wrap64 (a1_5 - a1_4)))) + (l1_2.length : Int))) + a0_0)) + a0_1))
set_option maxHeartbeats 8000000 in
set_option maxRecDepth 100000 in
theorem decanterref23_Price.calls (a0_0 : Int) (a0_1 : Int) (a0_2 : Int) (a1_0 : Int) (a1_1 : ByteArray) (A1_2 : Option Addr) (c1_2 : Nat) (l1_2 : List (S91)) (a1_3 : ByteArray) (a1_4 : Int) (a1_5 : Int) (r : Int) (w : World) (hr1_2 : Kd.C k91 w A1_2 l1_2.length l1_2) (hc1_2 : l1_2.length ≤ c1_2) (h : decanterref23_Price.f a0_0 a0_1 a0_2 a1_0 a1_1 l1_2 a1_3 a1_4 a1_5 = some r) :
    Calls Tryd.prog 12 #[.agg #[.int .i64 a0_0, .int .i64 a0_1, .int .i64 a0_2], .agg #[.int .i64 a1_0, .string a1_1, .slice A1_2 l1_2.length c1_2, .string a1_3, .int .i64 a1_4, .int .i64 a1_5]] w fun e w' => e = .returned (.int .i64 r) ∧ Below w.heap.size w w' := by
  have hu25 := Tryd.underlying25
  have hu28 := Tryd.underlying28
  have HR1_2 := Aside0.mk hr1_2
  have HC1_2 := Aside0.mk hc1_2
  clear hr1_2 hc1_2
  have HB := Aside0.mk (Below.refl w.heap.size w)
  have H : (some (wrap64 ((wrap64 ((wrap64 ((wrap64 (1 + (wrap64 (a1_5 - a1_4)))) + (l1_2.length : Int))) + a0_0)) + a0_1))) = some r := h
  clear h
  obtain rfl := Option.some.inj H
  go_enter Tryd.func12, Tryd.ntmps12
  go_wp2_with (first | ((with_reducible refine gate_dst (N := 2) rfl ?_); refine box_event ?hg (N := 2) ?hd (cs := #[.int .i64 a0_0, .int .i64 a0_1, .int .i64 a0_2]) (t := 25) ?hr ?_; (case hd => rfl); (case hg => rfl); (case hr => first | (go_simp; done) | (go_simp; rfl)); intro gb116 hg w3 hbox hb; have n0_ := Aside0.mk (below_step (by repeat (first | (with_reducible first | exact HB.out | apply below_alloc | apply pw_below_drewN | apply below_drew1) | exact HB.out)) hb); have n1_ := Aside0.mk (hbox); have n2_ := Aside0.mk ((by rw [hg]; exact (below_size (by repeat (first | (with_reducible first | exact HB.out | apply below_alloc | apply pw_below_drewN | apply below_drew1) | exact HB.out))) : w.heap.size ≤ gb116)); have n3_ := Aside0.mk ((by rw [hg]; exact (below_size (by repeat (first | (with_reducible first | exact HB.out | apply below_alloc | apply pw_below_drewN | apply below_drew1) | exact HB.out))) : w.heap.size ≤ gb116)); clear HB; have HB := n0_; have BK116 := n1_; have GW116 := n2_; have GE116 := n3_; clear n0_ n1_ n2_ n3_; clear hb hbox hg) | ((with_reducible refine gate_dst (N := 3) rfl ?_); refine box_event ?hg (N := 3) ?hd (cs := #[.int .i64 a1_0, .string a1_1, .slice A1_2 l1_2.length c1_2, .string a1_3, .int .i64 a1_4, .int .i64 a1_5]) (t := 28) ?hr ?_; (case hd => rfl); (case hg => rfl); (case hr => first | (go_simp; done) | (go_simp; rfl)); intro gb117 hg w4 hbox hb; have n0_ := Aside0.mk (blk_below (g := gb116) (o := .cells #[.int .i64 a0_0, .int .i64 a0_1, .int .i64 a0_2] 25 (0, 0)) (by (with_reducible repeat (first | refine blk_drewN ?_ _ | refine blk_drew ?_ | refine blk_alloc ?_ _)); exact BK116.out) hb); have n1_ := Aside0.mk (below_step (by repeat (first | (with_reducible first | exact HB.out | apply below_alloc | apply pw_below_drewN | apply below_drew1 | refine below_set ?_ GE116.out) | exact HB.out)) hb); have n2_ := Aside0.mk (hbox); have n3_ := Aside0.mk ((by rw [hg]; exact (below_size (by repeat (first | (with_reducible first | exact HB.out | apply below_alloc | apply pw_below_drewN | apply below_drew1 | refine below_set ?_ GE116.out) | exact HB.out))) : w.heap.size ≤ gb117)); have n4_ := Aside0.mk ((by rw [hg]; exact (below_size (by repeat (first | (with_reducible first | exact HB.out | apply below_alloc | apply pw_below_drewN | apply below_drew1 | refine below_set ?_ GE116.out) | exact HB.out))) : w.heap.size ≤ gb117)); have n5_ := Aside0.mk ((by rw [hg]; exact Nat.ne_of_lt (blk_lt (g := gb116) (o := .cells #[.int .i64 a0_0, .int .i64 a0_1, .int .i64 a0_2] 25 (0, 0)) (by (with_reducible repeat (first | refine blk_drewN ?_ _ | refine blk_drew ?_ | refine blk_alloc ?_ _)); exact BK116.out)) : gb116 ≠ gb117)); have n6_ := Aside0.mk ((by rw [hg]; exact Nat.ne_of_gt (blk_lt (g := gb116) (o := .cells #[.int .i64 a0_0, .int .i64 a0_1, .int .i64 a0_2] 25 (0, 0)) (by (with_reducible repeat (first | refine blk_drewN ?_ _ | refine blk_drew ?_ | refine blk_alloc ?_ _)); exact BK116.out)) : gb117 ≠ gb116)); clear BK116; clear HB; have BK116 := n0_; have HB := n1_; have BK117 := n2_; have GW117 := n3_; have GE117 := n4_; have NB116_117 := n5_; have NB117_116 := n6_; clear n0_ n1_ n2_ n3_ n4_ n5_ n6_; clear hb hbox hg; have hnb5 := NB117_116.out; have hnc5 := NB116_117.out; have hcz6_0 : w4.cell? ⟨gb117, 0, none⟩ = some (.int .i64 a1_0) := (blk_cell BK117.out 0).trans rfl; have hcz6_1 : w4.cell? ⟨gb117, 1, none⟩ = some (.string a1_1) := (blk_cell BK117.out 1).trans rfl; have hcz6_2 : w4.cell? ⟨gb117, 2, none⟩ = some (.slice A1_2 l1_2.length c1_2) := (blk_cell BK117.out 2).trans rfl; have hcz6_3 : w4.cell? ⟨gb117, 3, none⟩ = some (.string a1_3) := (blk_cell BK117.out 3).trans rfl; have hcz6_4 : w4.cell? ⟨gb117, 4, none⟩ = some (.int .i64 a1_4) := (blk_cell BK117.out 4).trans rfl; have hcz6_5 : w4.cell? ⟨gb117, 5, none⟩ = some (.int .i64 a1_5) := (blk_cell BK117.out 5).trans rfl; have hfz6_0 := blk_frozen BK117.out 0; have hfz6_1 := blk_frozen BK117.out 1; have hfz6_2 := blk_frozen BK117.out 2; have hfz6_3 := blk_frozen BK117.out 3; have hfz6_4 := blk_frozen BK117.out 4; have hfz6_5 := blk_frozen BK117.out 5; have hcz7_0 : w4.cell? ⟨gb116, 0, none⟩ = some (.int .i64 a0_0) := (blk_cell BK116.out 0).trans rfl; have hcz7_1 : w4.cell? ⟨gb116, 1, none⟩ = some (.int .i64 a0_1) := (blk_cell BK116.out 1).trans rfl; have hcz7_2 : w4.cell? ⟨gb116, 2, none⟩ = some (.int .i64 a0_2) := (blk_cell BK116.out 2).trans rfl; have hfz7_0 := blk_frozen BK116.out 0; have hfz7_1 := blk_frozen BK116.out 1; have hfz7_2 := blk_frozen BK116.out 2))
  go_ret
  exact ⟨by first | rfl | (simp [errW_none, errW_some] <;> rfl) | (simp [*, errW_none, errW_some] <;> rfl), by repeat (first | (with_reducible first | exact HB.out | apply below_alloc | apply pw_below_drewN | apply below_drew1 | refine below_set ?_ GE116.out | refine below_set ?_ GE117.out) | exact HB.out)⟩

/-! ### caps_Over: function 13 -/
section
open Go.ChangeShapes Go.WideShapes Go.ChangeAt Go.RowKit
section
variable (lf ld la lo lc so sl sc kd fr tz : Int) (nm tx : ByteArray) (A : Option Addr) (n c : Nat)
theorem caps_Over.f84 (w : World) : Calls Tryd.prog 84 #[.agg #[.int .i64 so, .int .i64 sl, .int .i64 sc], .agg #[.int .i64 kd, .string nm, .slice A n c, .string tx, .int .i64 fr, .int .i64 tz]] w fun e w' => e = .returned (.int .i64 n) ∧ Below w.heap.size w w' := by
  go_enter Tryd.func84, Tryd.ntmps84
  go_wp2
  go_ret
  exact ⟨rfl, by go_grown⟩
theorem caps_Over.f85 (w : World) : Calls Tryd.prog 85 #[.agg #[.int .i64 lf, .int .i64 ld, .int .i64 la, .int .i64 lo, .int .i64 lc]] w fun e w' => e = .returned (.int .i64 la) ∧ Below w.heap.size w w' := by
  go_enter Tryd.func85, Tryd.ntmps85
  go_wp2
  go_ret
  exact ⟨rfl, by go_grown⟩
theorem caps_Over.f86 (w : World) : Calls Tryd.prog 86 #[.agg #[.int .i64 so, .int .i64 sl, .int .i64 sc], .agg #[.int .i64 kd, .string nm, .slice A n c, .string tx, .int .i64 fr, .int .i64 tz]] w fun e w' => e = .returned (.int .i64 so) ∧ Below w.heap.size w w' := by
  go_enter Tryd.func86, Tryd.ntmps86
  go_wp2
  go_ret
  exact ⟨rfl, by go_grown⟩
theorem caps_Over.f87 (w : World) : Calls Tryd.prog 87 #[.agg #[.int .i64 lf, .int .i64 ld, .int .i64 la, .int .i64 lo, .int .i64 lc]] w fun e w' => e = .returned (.int .i64 ld) ∧ Below w.heap.size w w' := by
  go_enter Tryd.func87, Tryd.ntmps87
  go_wp2
  go_ret
  exact ⟨rfl, by go_grown⟩
theorem caps_Over.f88 (w : World) : Calls Tryd.prog 88 #[.agg #[.int .i64 so, .int .i64 sl, .int .i64 sc], .agg #[.int .i64 kd, .string nm, .slice A n c, .string tx, .int .i64 fr, .int .i64 tz]] w fun e w' => e = .returned (.int .i64 sl) ∧ Below w.heap.size w w' := by
  go_enter Tryd.func88, Tryd.ntmps88
  go_wp2
  go_ret
  exact ⟨rfl, by go_grown⟩
theorem caps_Over.f89 (w : World) : Calls Tryd.prog 89 #[.agg #[.int .i64 lf, .int .i64 ld, .int .i64 la, .int .i64 lo, .int .i64 lc]] w fun e w' => e = .returned (.int .i64 lo) ∧ Below w.heap.size w w' := by
  go_enter Tryd.func89, Tryd.ntmps89
  go_wp2
  go_ret
  exact ⟨rfl, by go_grown⟩
theorem caps_Over.f90 (w : World) : Calls Tryd.prog 90 #[.agg #[.int .i64 so, .int .i64 sl, .int .i64 sc], .agg #[.int .i64 kd, .string nm, .slice A n c, .string tx, .int .i64 fr, .int .i64 tz]] w fun e w' => e = .returned (.int .i64 sc) ∧ Below w.heap.size w w' := by
  go_enter Tryd.func90, Tryd.ntmps90
  go_wp2
  go_ret
  exact ⟨rfl, by go_grown⟩
theorem caps_Over.f91 (w : World) : Calls Tryd.prog 91 #[.agg #[.int .i64 lf, .int .i64 ld, .int .i64 la, .int .i64 lo, .int .i64 lc]] w fun e w' => e = .returned (.int .i64 lc) ∧ Below w.heap.size w w' := by
  go_enter Tryd.func91, Tryd.ntmps91
  go_wp2
  go_ret
  exact ⟨rfl, by go_grown⟩

theorem caps_Over.f84' (W0 w : World) (h : Below W0.heap.size W0 w) : Calls Tryd.prog 84 #[.agg #[.int .i64 so, .int .i64 sl, .int .i64 sc], .agg #[.int .i64 kd, .string nm, .slice A n c, .string tx, .int .i64 fr, .int .i64 tz]] w fun e w' => e = .returned (.int .i64 n) ∧ Below W0.heap.size W0 w' :=
  (caps_Over.f84 so sl sc kd fr tz nm tx A n c w).mono fun _ _ ⟨he, hb⟩ => ⟨he, below_all h hb⟩
theorem caps_Over.f85' (W0 w : World) (h : Below W0.heap.size W0 w) : Calls Tryd.prog 85 #[.agg #[.int .i64 lf, .int .i64 ld, .int .i64 la, .int .i64 lo, .int .i64 lc]] w fun e w' => e = .returned (.int .i64 la) ∧ Below W0.heap.size W0 w' :=
  (caps_Over.f85 lf ld la lo lc w).mono fun _ _ ⟨he, hb⟩ => ⟨he, below_all h hb⟩
theorem caps_Over.f86' (W0 w : World) (h : Below W0.heap.size W0 w) : Calls Tryd.prog 86 #[.agg #[.int .i64 so, .int .i64 sl, .int .i64 sc], .agg #[.int .i64 kd, .string nm, .slice A n c, .string tx, .int .i64 fr, .int .i64 tz]] w fun e w' => e = .returned (.int .i64 so) ∧ Below W0.heap.size W0 w' :=
  (caps_Over.f86 so sl sc kd fr tz nm tx A n c w).mono fun _ _ ⟨he, hb⟩ => ⟨he, below_all h hb⟩
theorem caps_Over.f87' (W0 w : World) (h : Below W0.heap.size W0 w) : Calls Tryd.prog 87 #[.agg #[.int .i64 lf, .int .i64 ld, .int .i64 la, .int .i64 lo, .int .i64 lc]] w fun e w' => e = .returned (.int .i64 ld) ∧ Below W0.heap.size W0 w' :=
  (caps_Over.f87 lf ld la lo lc w).mono fun _ _ ⟨he, hb⟩ => ⟨he, below_all h hb⟩
theorem caps_Over.f88' (W0 w : World) (h : Below W0.heap.size W0 w) : Calls Tryd.prog 88 #[.agg #[.int .i64 so, .int .i64 sl, .int .i64 sc], .agg #[.int .i64 kd, .string nm, .slice A n c, .string tx, .int .i64 fr, .int .i64 tz]] w fun e w' => e = .returned (.int .i64 sl) ∧ Below W0.heap.size W0 w' :=
  (caps_Over.f88 so sl sc kd fr tz nm tx A n c w).mono fun _ _ ⟨he, hb⟩ => ⟨he, below_all h hb⟩
theorem caps_Over.f89' (W0 w : World) (h : Below W0.heap.size W0 w) : Calls Tryd.prog 89 #[.agg #[.int .i64 lf, .int .i64 ld, .int .i64 la, .int .i64 lo, .int .i64 lc]] w fun e w' => e = .returned (.int .i64 lo) ∧ Below W0.heap.size W0 w' :=
  (caps_Over.f89 lf ld la lo lc w).mono fun _ _ ⟨he, hb⟩ => ⟨he, below_all h hb⟩
theorem caps_Over.f90' (W0 w : World) (h : Below W0.heap.size W0 w) : Calls Tryd.prog 90 #[.agg #[.int .i64 so, .int .i64 sl, .int .i64 sc], .agg #[.int .i64 kd, .string nm, .slice A n c, .string tx, .int .i64 fr, .int .i64 tz]] w fun e w' => e = .returned (.int .i64 sc) ∧ Below W0.heap.size W0 w' :=
  (caps_Over.f90 so sl sc kd fr tz nm tx A n c w).mono fun _ _ ⟨he, hb⟩ => ⟨he, below_all h hb⟩
theorem caps_Over.f91' (W0 w : World) (h : Below W0.heap.size W0 w) : Calls Tryd.prog 91 #[.agg #[.int .i64 lf, .int .i64 ld, .int .i64 la, .int .i64 lo, .int .i64 lc]] w fun e w' => e = .returned (.int .i64 lc) ∧ Below W0.heap.size W0 w' :=
  (caps_Over.f91 lf ld la lo lc w).mono fun _ _ ⟨he, hb⟩ => ⟨he, below_all h hb⟩
theorem caps_Over.ret_int {k : IntKind} {a b : Int} (h : a = b) : Ending.returned (.int k a) = .returned (.int k b) := by rw [h]
def caps_Over.overI : Int := if la < (n : Int) then 9 else if ld < so then 8 else if lo < sl then 10 else if lc < sc then 11 else 0
theorem caps_Over.ix0 (w : World) : (Instr.index 72 (.agg #[.func (.func 84) #[] #[], .func (.func 85) #[] #[], .int .i64 9, .func (.func 86) #[] #[], .func (.func 87) #[] #[], .int .i64 8, .func (.func 88) #[] #[], .func (.func 89) #[] #[], .int .i64 10, .func (.func 90) #[] #[], .func (.func 91) #[] #[], .int .i64 11]) (.int .i64 0)).run Tryd.prog w = .ok (.agg #[.func (.func 84) #[] #[], .func (.func 85) #[] #[], .int .i64 9]) w := by kernel_rfl
theorem caps_Over.ix1 (w : World) : (Instr.index 72 (.agg #[.func (.func 84) #[] #[], .func (.func 85) #[] #[], .int .i64 9, .func (.func 86) #[] #[], .func (.func 87) #[] #[], .int .i64 8, .func (.func 88) #[] #[], .func (.func 89) #[] #[], .int .i64 10, .func (.func 90) #[] #[], .func (.func 91) #[] #[], .int .i64 11]) (.int .i64 1)).run Tryd.prog w = .ok (.agg #[.func (.func 86) #[] #[], .func (.func 87) #[] #[], .int .i64 8]) w := by kernel_rfl
theorem caps_Over.ix2 (w : World) : (Instr.index 72 (.agg #[.func (.func 84) #[] #[], .func (.func 85) #[] #[], .int .i64 9, .func (.func 86) #[] #[], .func (.func 87) #[] #[], .int .i64 8, .func (.func 88) #[] #[], .func (.func 89) #[] #[], .int .i64 10, .func (.func 90) #[] #[], .func (.func 91) #[] #[], .int .i64 11]) (.int .i64 2)).run Tryd.prog w = .ok (.agg #[.func (.func 88) #[] #[], .func (.func 89) #[] #[], .int .i64 10]) w := by kernel_rfl
theorem caps_Over.ix3 (w : World) : (Instr.index 72 (.agg #[.func (.func 84) #[] #[], .func (.func 85) #[] #[], .int .i64 9, .func (.func 86) #[] #[], .func (.func 87) #[] #[], .int .i64 8, .func (.func 88) #[] #[], .func (.func 89) #[] #[], .int .i64 10, .func (.func 90) #[] #[], .func (.func 91) #[] #[], .int .i64 11]) (.int .i64 3)).run Tryd.prog w = .ok (.agg #[.func (.func 90) #[] #[], .func (.func 91) #[] #[], .int .i64 11]) w := by kernel_rfl
set_option maxRecDepth 100000 in
set_option maxHeartbeats 4000000 in
theorem caps_Over.over_any (w : World) (t : TypeId) (fz : Nat × Nat) (hg : w.heap[1]? = some (.cells rulesTab t fz)) :
    Calls Tryd.prog 13 #[.agg #[.int .i64 lf, .int .i64 ld, .int .i64 la, .int .i64 lo, .int .i64 lc], .agg #[.int .i64 so, .int .i64 sl, .int .i64 sc], .agg #[.int .i64 kd, .string nm, .slice A n c, .string tx, .int .i64 fr, .int .i64 tz]] w fun e w' => e = .returned (.int .i64 (caps_Over.overI ld la lo lc so sl sc n)) ∧ Below w.heap.size w w' := by
  have h1 : 1 < w.heap.size := (Array.getElem?_eq_some_iff.1 hg).1
  have hgs : ∀ o1 o2 o3 : Obj, (((w.alloc o1).alloc o2).alloc o3).heap[1]? = some (.cells rulesTab t fz) := fun o1 o2 o3 => by
    rw [Below.heap_alloc _ _ _ (by rw [World.size_alloc, World.size_alloc]; omega), Below.heap_alloc _ _ _ (by rw [World.size_alloc]; omega), Below.heap_alloc _ _ _ h1]; exact hg
  have hgs' := Lib.hid hgs
  clear hgs hg
  go_enter Tryd.func13, Tryd.ntmps13
  go_wp2_with (refine wpList_load_row rfl 72 _ rfl 1 rfl t rulesTab fz _ (hgs'.out _ _ _) Tryd.underlying72 rfl (by kernel_rfl) ?_)
  unfold rulesTab
  clear hgs' h1
  go_loopg [10] 4 (fun gg s10 wr => ∃ (k : Nat), k ≤ 4 ∧ 4 - k ≤ gg ∧ s10 = .int .i64 k ∧ Below w.heap.size w wr ∧ w.heap.size + 3 ≤ wr.heap.size ∧
    wr.heap[w.heap.size]? = some (.cells #[.int .i64 lf, .int .i64 ld, .int .i64 la, .int .i64 lo, .int .i64 lc] 32 (0, 0)) ∧
    wr.heap[w.heap.size + 1]? = some (.cells #[.int .i64 so, .int .i64 sl, .int .i64 sc] 40 (0, 0)) ∧
    wr.heap[w.heap.size + 1 + 1]? = some (.cells #[.int .i64 kd, .string nm, .slice A n c, .string tx, .int .i64 fr, .int .i64 tz] 37 (0, 0)) ∧
    Aside (0 < k → (n : Int) ≤ la) ∧ Aside (1 < k → so ≤ ld) ∧ Aside (2 < k → sl ≤ lo) ∧ Aside (3 < k → sc ≤ lc))
  case atStart =>
    refine ⟨0, by omega, by omega, rfl, by go_grown, by simp, ?_, ?_, ?_, fun h => absurd h (by omega), fun h => absurd h (by omega), fun h => absurd h (by omega), fun h => absurd h (by omega)⟩
    · rw [Below.heap_alloc _ _ _ (by rw [World.size_alloc, World.size_alloc]; omega), Below.heap_alloc _ _ _ (by rw [World.size_alloc]; omega)]
      exact heap_alloc_new _ _
    · rw [Below.heap_alloc _ _ _ (by rw [World.size_alloc, World.size_alloc]; omega)]
      have e : w.heap.size + 1 = (w.alloc (.cells #[.int .i64 lf, .int .i64 ld, .int .i64 la, .int .i64 lo, .int .i64 lc] 32)).heap.size := (World.size_alloc ..).symm
      rw [e]
      exact heap_alloc_new _ _
    · have e : w.heap.size + 1 + 1 = ((w.alloc (.cells #[.int .i64 lf, .int .i64 ld, .int .i64 la, .int .i64 lo, .int .i64 lc] 32)).alloc (.cells #[.int .i64 so, .int .i64 sl, .int .i64 sc] 40)).heap.size := by rw [World.size_alloc, World.size_alloc]
      rw [e]
      exact heap_alloc_new _ _
  case round =>
    obtain ⟨k, hk, hgg, rfl, hb, hsz, b0, b1, b2, a0, a1, a2, a3⟩ := hrel
    have c00 : wr.cell? ⟨w.heap.size, 0, none⟩ = some (.int .i64 lf) := cell_of_row wr _ 0 _ _ _ b0
    have c01 : wr.cell? ⟨w.heap.size, 1, none⟩ = some (.int .i64 ld) := cell_of_row wr _ 1 _ _ _ b0
    have c02 : wr.cell? ⟨w.heap.size, 2, none⟩ = some (.int .i64 la) := cell_of_row wr _ 2 _ _ _ b0
    have c03 : wr.cell? ⟨w.heap.size, 3, none⟩ = some (.int .i64 lo) := cell_of_row wr _ 3 _ _ _ b0
    have c04 : wr.cell? ⟨w.heap.size, 4, none⟩ = some (.int .i64 lc) := cell_of_row wr _ 4 _ _ _ b0
    have c10 : wr.cell? ⟨w.heap.size + 1, 0, none⟩ = some (.int .i64 so) := cell_of_row wr _ 0 _ _ _ b1
    have c11 : wr.cell? ⟨w.heap.size + 1, 1, none⟩ = some (.int .i64 sl) := cell_of_row wr _ 1 _ _ _ b1
    have c12 : wr.cell? ⟨w.heap.size + 1, 2, none⟩ = some (.int .i64 sc) := cell_of_row wr _ 2 _ _ _ b1
    have c20 : wr.cell? ⟨w.heap.size + 1 + 1, 0, none⟩ = some (.int .i64 kd) := cell_of_row wr _ 0 _ _ _ b2
    have c21 : wr.cell? ⟨w.heap.size + 1 + 1, 1, none⟩ = some (.string nm) := cell_of_row wr _ 1 _ _ _ b2
    have c22 : wr.cell? ⟨w.heap.size + 1 + 1, 2, none⟩ = some (.slice A n c) := cell_of_row wr _ 2 _ _ _ b2
    have c23 : wr.cell? ⟨w.heap.size + 1 + 1, 3, none⟩ = some (.string tx) := cell_of_row wr _ 3 _ _ _ b2
    have c24 : wr.cell? ⟨w.heap.size + 1 + 1, 4, none⟩ = some (.int .i64 fr) := cell_of_row wr _ 4 _ _ _ b2
    have c25 : wr.cell? ⟨w.heap.size + 1 + 1, 5, none⟩ = some (.int .i64 tz) := cell_of_row wr _ 5 _ _ _ b2
    have B0 := Lib.hid b0
    have B1 := Lib.hid b1
    have B2 := Lib.hid b2
    clear b0 b1 b2
    obtain rfl | rfl | rfl | rfl | rfl : k = 0 ∨ k = 1 ∨ k = 2 ∨ k = 3 ∨ k = 4 := by omega
    · by_cases ht : la < (n : Int)
      all_goals
        simp only [Int.natCast_zero] at *
        have i0 := fun w => caps_Over.ix0 w
        go_wp2_with fail
        obtain ⟨W0, hW0⟩ : ∃ W0, W0 = wr.alloc (Obj.cells #[Value.func (Fn.func 84) #[] #[], Value.func (Fn.func 85) #[] #[], Value.int IntKind.i64 9] 71) := ⟨_, rfl⟩
        have hbW : Below wr.heap.size wr W0 := hW0 ▸ (Below.refl _ _).alloc (Nat.le_refl _) _
        have SK : ∀ w', Below W0.heap.size W0 w' → w'.cell? ⟨w.heap.size, 0, none⟩ = some (.int .i64 lf) ∧ w'.cell? ⟨w.heap.size, 1, none⟩ = some (.int .i64 ld) ∧ w'.cell? ⟨w.heap.size, 2, none⟩ = some (.int .i64 la) ∧ w'.cell? ⟨w.heap.size, 3, none⟩ = some (.int .i64 lo) ∧ w'.cell? ⟨w.heap.size, 4, none⟩ = some (.int .i64 lc) ∧ w'.cell? ⟨w.heap.size + 1, 0, none⟩ = some (.int .i64 so) ∧ w'.cell? ⟨w.heap.size + 1, 1, none⟩ = some (.int .i64 sl) ∧ w'.cell? ⟨w.heap.size + 1, 2, none⟩ = some (.int .i64 sc) ∧ w'.cell? ⟨w.heap.size + 1 + 1, 0, none⟩ = some (.int .i64 kd) ∧ w'.cell? ⟨w.heap.size + 1 + 1, 1, none⟩ = some (.string nm) ∧ w'.cell? ⟨w.heap.size + 1 + 1, 2, none⟩ = some (.slice A n c) ∧ w'.cell? ⟨w.heap.size + 1 + 1, 3, none⟩ = some (.string tx) ∧ w'.cell? ⟨w.heap.size + 1 + 1, 4, none⟩ = some (.int .i64 fr) ∧ w'.cell? ⟨w.heap.size + 1 + 1, 5, none⟩ = some (.int .i64 tz) ∧ w'.cell? ⟨wr.heap.size, 0, none⟩ = some (.func (.func 84) #[] #[]) ∧ w'.cell? ⟨wr.heap.size, 1, none⟩ = some (.func (.func 85) #[] #[]) ∧ w'.cell? ⟨wr.heap.size, 2, none⟩ = some (.int .i64 9) := fun w' hb' => by
          have hbb := below_all hbW hb'
          refine ⟨cellk hbb c00, cellk hbb c01, cellk hbb c02, cellk hbb c03, cellk hbb c04, cellk hbb c10, cellk hbb c11, cellk hbb c12, cellk hbb c20, cellk hbb c21, cellk hbb c22, cellk hbb c23, cellk hbb c24, cellk hbb c25, ?_, ?_, ?_⟩
          all_goals
            rw [hb'.cell (by rw [hW0]; simp), hW0]
            simp
        rw [← hW0]
        have sk := Lib.hid SK
        clear SK hW0
        go_region_held3 (fun w' => Below W0.heap.size W0 w' ∧ w'.cell? ⟨w.heap.size, 0, none⟩ = some (.int .i64 lf) ∧ w'.cell? ⟨w.heap.size, 1, none⟩ = some (.int .i64 ld) ∧ w'.cell? ⟨w.heap.size, 2, none⟩ = some (.int .i64 la) ∧ w'.cell? ⟨w.heap.size, 3, none⟩ = some (.int .i64 lo) ∧ w'.cell? ⟨w.heap.size, 4, none⟩ = some (.int .i64 lc) ∧ w'.cell? ⟨w.heap.size + 1, 0, none⟩ = some (.int .i64 so) ∧ w'.cell? ⟨w.heap.size + 1, 1, none⟩ = some (.int .i64 sl) ∧ w'.cell? ⟨w.heap.size + 1, 2, none⟩ = some (.int .i64 sc) ∧ w'.cell? ⟨w.heap.size + 1 + 1, 0, none⟩ = some (.int .i64 kd) ∧ w'.cell? ⟨w.heap.size + 1 + 1, 1, none⟩ = some (.string nm) ∧ w'.cell? ⟨w.heap.size + 1 + 1, 2, none⟩ = some (.slice A n c) ∧ w'.cell? ⟨w.heap.size + 1 + 1, 3, none⟩ = some (.string tx) ∧ w'.cell? ⟨w.heap.size + 1 + 1, 4, none⟩ = some (.int .i64 fr) ∧ w'.cell? ⟨w.heap.size + 1 + 1, 5, none⟩ = some (.int .i64 tz) ∧ w'.cell? ⟨wr.heap.size, 0, none⟩ = some (.func (.func 84) #[] #[]) ∧ w'.cell? ⟨wr.heap.size, 1, none⟩ = some (.func (.func 85) #[] #[]) ∧ w'.cell? ⟨wr.heap.size, 2, none⟩ = some (.int .i64 9)) (first | exact ⟨Below.drew (Below.refl _ _), sk.out _ (Below.drew (Below.refl _ _))⟩ | exact ⟨by assumption, sk.out _ (by assumption)⟩) (first | (go_at_call 84; refine (caps_Over.f84' _ _ _ _ _ _ _ _ _ _ _ W0 _ ?_).mono ?_; (simp [*]); rintro e w1 ⟨rfl, hb1⟩) | (go_at_call 85; refine (caps_Over.f85' _ _ _ _ _ W0 _ ?_).mono ?_; (simp [*]); rintro e w2 ⟨rfl, hb2⟩))
        go_wp2
      · go_ret
        refine ⟨?_, hb.trans ((below_all hbW hb2).mono hb.size)⟩
        refine caps_Over.ret_int ?_
        unfold caps_Over.overI
        rw [if_pos (by omega)]
      · go_roundg (4 - (0 + 1))
        case measure => omega
        case rel =>
          have hbx := below_all hbW hb2
          refine ⟨0 + 1, by omega, by omega, by go_num, hb.trans (hbx.mono hb.size), by have := hbx.size; omega, (hbx.block _ (by omega)).trans B0.out, (hbx.block _ (by omega)).trans B1.out, (hbx.block _ (by omega)).trans B2.out, ?_, ?_, ?_, ?_⟩
          · exact fun _ => by omega
          · exact fun h => absurd h (by omega)
          · exact fun h => absurd h (by omega)
          · exact fun h => absurd h (by omega)
    · by_cases ht : ld < so
      all_goals
        simp only [Int.natCast_one] at *
        have i0 := fun w => caps_Over.ix1 w
        go_wp2_with fail
        obtain ⟨W0, hW0⟩ : ∃ W0, W0 = wr.alloc (Obj.cells #[Value.func (Fn.func 86) #[] #[], Value.func (Fn.func 87) #[] #[], Value.int IntKind.i64 8] 71) := ⟨_, rfl⟩
        have hbW : Below wr.heap.size wr W0 := hW0 ▸ (Below.refl _ _).alloc (Nat.le_refl _) _
        have SK : ∀ w', Below W0.heap.size W0 w' → w'.cell? ⟨w.heap.size, 0, none⟩ = some (.int .i64 lf) ∧ w'.cell? ⟨w.heap.size, 1, none⟩ = some (.int .i64 ld) ∧ w'.cell? ⟨w.heap.size, 2, none⟩ = some (.int .i64 la) ∧ w'.cell? ⟨w.heap.size, 3, none⟩ = some (.int .i64 lo) ∧ w'.cell? ⟨w.heap.size, 4, none⟩ = some (.int .i64 lc) ∧ w'.cell? ⟨w.heap.size + 1, 0, none⟩ = some (.int .i64 so) ∧ w'.cell? ⟨w.heap.size + 1, 1, none⟩ = some (.int .i64 sl) ∧ w'.cell? ⟨w.heap.size + 1, 2, none⟩ = some (.int .i64 sc) ∧ w'.cell? ⟨w.heap.size + 1 + 1, 0, none⟩ = some (.int .i64 kd) ∧ w'.cell? ⟨w.heap.size + 1 + 1, 1, none⟩ = some (.string nm) ∧ w'.cell? ⟨w.heap.size + 1 + 1, 2, none⟩ = some (.slice A n c) ∧ w'.cell? ⟨w.heap.size + 1 + 1, 3, none⟩ = some (.string tx) ∧ w'.cell? ⟨w.heap.size + 1 + 1, 4, none⟩ = some (.int .i64 fr) ∧ w'.cell? ⟨w.heap.size + 1 + 1, 5, none⟩ = some (.int .i64 tz) ∧ w'.cell? ⟨wr.heap.size, 0, none⟩ = some (.func (.func 86) #[] #[]) ∧ w'.cell? ⟨wr.heap.size, 1, none⟩ = some (.func (.func 87) #[] #[]) ∧ w'.cell? ⟨wr.heap.size, 2, none⟩ = some (.int .i64 8) := fun w' hb' => by
          have hbb := below_all hbW hb'
          refine ⟨cellk hbb c00, cellk hbb c01, cellk hbb c02, cellk hbb c03, cellk hbb c04, cellk hbb c10, cellk hbb c11, cellk hbb c12, cellk hbb c20, cellk hbb c21, cellk hbb c22, cellk hbb c23, cellk hbb c24, cellk hbb c25, ?_, ?_, ?_⟩
          all_goals
            rw [hb'.cell (by rw [hW0]; simp), hW0]
            simp
        rw [← hW0]
        have sk := Lib.hid SK
        clear SK hW0
        go_region_held3 (fun w' => Below W0.heap.size W0 w' ∧ w'.cell? ⟨w.heap.size, 0, none⟩ = some (.int .i64 lf) ∧ w'.cell? ⟨w.heap.size, 1, none⟩ = some (.int .i64 ld) ∧ w'.cell? ⟨w.heap.size, 2, none⟩ = some (.int .i64 la) ∧ w'.cell? ⟨w.heap.size, 3, none⟩ = some (.int .i64 lo) ∧ w'.cell? ⟨w.heap.size, 4, none⟩ = some (.int .i64 lc) ∧ w'.cell? ⟨w.heap.size + 1, 0, none⟩ = some (.int .i64 so) ∧ w'.cell? ⟨w.heap.size + 1, 1, none⟩ = some (.int .i64 sl) ∧ w'.cell? ⟨w.heap.size + 1, 2, none⟩ = some (.int .i64 sc) ∧ w'.cell? ⟨w.heap.size + 1 + 1, 0, none⟩ = some (.int .i64 kd) ∧ w'.cell? ⟨w.heap.size + 1 + 1, 1, none⟩ = some (.string nm) ∧ w'.cell? ⟨w.heap.size + 1 + 1, 2, none⟩ = some (.slice A n c) ∧ w'.cell? ⟨w.heap.size + 1 + 1, 3, none⟩ = some (.string tx) ∧ w'.cell? ⟨w.heap.size + 1 + 1, 4, none⟩ = some (.int .i64 fr) ∧ w'.cell? ⟨w.heap.size + 1 + 1, 5, none⟩ = some (.int .i64 tz) ∧ w'.cell? ⟨wr.heap.size, 0, none⟩ = some (.func (.func 86) #[] #[]) ∧ w'.cell? ⟨wr.heap.size, 1, none⟩ = some (.func (.func 87) #[] #[]) ∧ w'.cell? ⟨wr.heap.size, 2, none⟩ = some (.int .i64 8)) (first | exact ⟨Below.drew (Below.refl _ _), sk.out _ (Below.drew (Below.refl _ _))⟩ | exact ⟨by assumption, sk.out _ (by assumption)⟩) (first | (go_at_call 86; refine (caps_Over.f86' _ _ _ _ _ _ _ _ _ _ _ W0 _ ?_).mono ?_; (simp [*]); rintro e w1 ⟨rfl, hb1⟩) | (go_at_call 87; refine (caps_Over.f87' _ _ _ _ _ W0 _ ?_).mono ?_; (simp [*]); rintro e w2 ⟨rfl, hb2⟩))
        go_wp2
      · go_ret
        refine ⟨?_, hb.trans ((below_all hbW hb2).mono hb.size)⟩
        have q0 := a0.out (by omega)
        refine caps_Over.ret_int ?_
        unfold caps_Over.overI
        rw [if_neg (by omega), if_pos (by omega)]
      · go_roundg (4 - (1 + 1))
        case measure => omega
        case rel =>
          have hbx := below_all hbW hb2
          refine ⟨1 + 1, by omega, by omega, by go_num, hb.trans (hbx.mono hb.size), by have := hbx.size; omega, (hbx.block _ (by omega)).trans B0.out, (hbx.block _ (by omega)).trans B1.out, (hbx.block _ (by omega)).trans B2.out, ?_, ?_, ?_, ?_⟩
          · exact fun _ => a0.out (by omega)
          · exact fun _ => by omega
          · exact fun h => absurd h (by omega)
          · exact fun h => absurd h (by omega)
    · by_cases ht : lo < sl
      all_goals
        skip
        have i0 := fun w => caps_Over.ix2 w
        go_wp2_with fail
        obtain ⟨W0, hW0⟩ : ∃ W0, W0 = wr.alloc (Obj.cells #[Value.func (Fn.func 88) #[] #[], Value.func (Fn.func 89) #[] #[], Value.int IntKind.i64 10] 71) := ⟨_, rfl⟩
        have hbW : Below wr.heap.size wr W0 := hW0 ▸ (Below.refl _ _).alloc (Nat.le_refl _) _
        have SK : ∀ w', Below W0.heap.size W0 w' → w'.cell? ⟨w.heap.size, 0, none⟩ = some (.int .i64 lf) ∧ w'.cell? ⟨w.heap.size, 1, none⟩ = some (.int .i64 ld) ∧ w'.cell? ⟨w.heap.size, 2, none⟩ = some (.int .i64 la) ∧ w'.cell? ⟨w.heap.size, 3, none⟩ = some (.int .i64 lo) ∧ w'.cell? ⟨w.heap.size, 4, none⟩ = some (.int .i64 lc) ∧ w'.cell? ⟨w.heap.size + 1, 0, none⟩ = some (.int .i64 so) ∧ w'.cell? ⟨w.heap.size + 1, 1, none⟩ = some (.int .i64 sl) ∧ w'.cell? ⟨w.heap.size + 1, 2, none⟩ = some (.int .i64 sc) ∧ w'.cell? ⟨w.heap.size + 1 + 1, 0, none⟩ = some (.int .i64 kd) ∧ w'.cell? ⟨w.heap.size + 1 + 1, 1, none⟩ = some (.string nm) ∧ w'.cell? ⟨w.heap.size + 1 + 1, 2, none⟩ = some (.slice A n c) ∧ w'.cell? ⟨w.heap.size + 1 + 1, 3, none⟩ = some (.string tx) ∧ w'.cell? ⟨w.heap.size + 1 + 1, 4, none⟩ = some (.int .i64 fr) ∧ w'.cell? ⟨w.heap.size + 1 + 1, 5, none⟩ = some (.int .i64 tz) ∧ w'.cell? ⟨wr.heap.size, 0, none⟩ = some (.func (.func 88) #[] #[]) ∧ w'.cell? ⟨wr.heap.size, 1, none⟩ = some (.func (.func 89) #[] #[]) ∧ w'.cell? ⟨wr.heap.size, 2, none⟩ = some (.int .i64 10) := fun w' hb' => by
          have hbb := below_all hbW hb'
          refine ⟨cellk hbb c00, cellk hbb c01, cellk hbb c02, cellk hbb c03, cellk hbb c04, cellk hbb c10, cellk hbb c11, cellk hbb c12, cellk hbb c20, cellk hbb c21, cellk hbb c22, cellk hbb c23, cellk hbb c24, cellk hbb c25, ?_, ?_, ?_⟩
          all_goals
            rw [hb'.cell (by rw [hW0]; simp), hW0]
            simp
        rw [← hW0]
        have sk := Lib.hid SK
        clear SK hW0
        go_region_held3 (fun w' => Below W0.heap.size W0 w' ∧ w'.cell? ⟨w.heap.size, 0, none⟩ = some (.int .i64 lf) ∧ w'.cell? ⟨w.heap.size, 1, none⟩ = some (.int .i64 ld) ∧ w'.cell? ⟨w.heap.size, 2, none⟩ = some (.int .i64 la) ∧ w'.cell? ⟨w.heap.size, 3, none⟩ = some (.int .i64 lo) ∧ w'.cell? ⟨w.heap.size, 4, none⟩ = some (.int .i64 lc) ∧ w'.cell? ⟨w.heap.size + 1, 0, none⟩ = some (.int .i64 so) ∧ w'.cell? ⟨w.heap.size + 1, 1, none⟩ = some (.int .i64 sl) ∧ w'.cell? ⟨w.heap.size + 1, 2, none⟩ = some (.int .i64 sc) ∧ w'.cell? ⟨w.heap.size + 1 + 1, 0, none⟩ = some (.int .i64 kd) ∧ w'.cell? ⟨w.heap.size + 1 + 1, 1, none⟩ = some (.string nm) ∧ w'.cell? ⟨w.heap.size + 1 + 1, 2, none⟩ = some (.slice A n c) ∧ w'.cell? ⟨w.heap.size + 1 + 1, 3, none⟩ = some (.string tx) ∧ w'.cell? ⟨w.heap.size + 1 + 1, 4, none⟩ = some (.int .i64 fr) ∧ w'.cell? ⟨w.heap.size + 1 + 1, 5, none⟩ = some (.int .i64 tz) ∧ w'.cell? ⟨wr.heap.size, 0, none⟩ = some (.func (.func 88) #[] #[]) ∧ w'.cell? ⟨wr.heap.size, 1, none⟩ = some (.func (.func 89) #[] #[]) ∧ w'.cell? ⟨wr.heap.size, 2, none⟩ = some (.int .i64 10)) (first | exact ⟨Below.drew (Below.refl _ _), sk.out _ (Below.drew (Below.refl _ _))⟩ | exact ⟨by assumption, sk.out _ (by assumption)⟩) (first | (go_at_call 88; refine (caps_Over.f88' _ _ _ _ _ _ _ _ _ _ _ W0 _ ?_).mono ?_; (simp [*]); rintro e w1 ⟨rfl, hb1⟩) | (go_at_call 89; refine (caps_Over.f89' _ _ _ _ _ W0 _ ?_).mono ?_; (simp [*]); rintro e w2 ⟨rfl, hb2⟩))
        go_wp2
      · go_ret
        refine ⟨?_, hb.trans ((below_all hbW hb2).mono hb.size)⟩
        have q0 := a0.out (by omega)
        have q1 := a1.out (by omega)
        refine caps_Over.ret_int ?_
        unfold caps_Over.overI
        rw [if_neg (by omega), if_neg (by omega), if_pos (by omega)]
      · go_roundg (4 - (2 + 1))
        case measure => omega
        case rel =>
          have hbx := below_all hbW hb2
          refine ⟨2 + 1, by omega, by omega, by go_num, hb.trans (hbx.mono hb.size), by have := hbx.size; omega, (hbx.block _ (by omega)).trans B0.out, (hbx.block _ (by omega)).trans B1.out, (hbx.block _ (by omega)).trans B2.out, ?_, ?_, ?_, ?_⟩
          · exact fun _ => a0.out (by omega)
          · exact fun _ => a1.out (by omega)
          · exact fun _ => by omega
          · exact fun h => absurd h (by omega)
    · by_cases ht : lc < sc
      all_goals
        skip
        have i0 := fun w => caps_Over.ix3 w
        go_wp2_with fail
        obtain ⟨W0, hW0⟩ : ∃ W0, W0 = wr.alloc (Obj.cells #[Value.func (Fn.func 90) #[] #[], Value.func (Fn.func 91) #[] #[], Value.int IntKind.i64 11] 71) := ⟨_, rfl⟩
        have hbW : Below wr.heap.size wr W0 := hW0 ▸ (Below.refl _ _).alloc (Nat.le_refl _) _
        have SK : ∀ w', Below W0.heap.size W0 w' → w'.cell? ⟨w.heap.size, 0, none⟩ = some (.int .i64 lf) ∧ w'.cell? ⟨w.heap.size, 1, none⟩ = some (.int .i64 ld) ∧ w'.cell? ⟨w.heap.size, 2, none⟩ = some (.int .i64 la) ∧ w'.cell? ⟨w.heap.size, 3, none⟩ = some (.int .i64 lo) ∧ w'.cell? ⟨w.heap.size, 4, none⟩ = some (.int .i64 lc) ∧ w'.cell? ⟨w.heap.size + 1, 0, none⟩ = some (.int .i64 so) ∧ w'.cell? ⟨w.heap.size + 1, 1, none⟩ = some (.int .i64 sl) ∧ w'.cell? ⟨w.heap.size + 1, 2, none⟩ = some (.int .i64 sc) ∧ w'.cell? ⟨w.heap.size + 1 + 1, 0, none⟩ = some (.int .i64 kd) ∧ w'.cell? ⟨w.heap.size + 1 + 1, 1, none⟩ = some (.string nm) ∧ w'.cell? ⟨w.heap.size + 1 + 1, 2, none⟩ = some (.slice A n c) ∧ w'.cell? ⟨w.heap.size + 1 + 1, 3, none⟩ = some (.string tx) ∧ w'.cell? ⟨w.heap.size + 1 + 1, 4, none⟩ = some (.int .i64 fr) ∧ w'.cell? ⟨w.heap.size + 1 + 1, 5, none⟩ = some (.int .i64 tz) ∧ w'.cell? ⟨wr.heap.size, 0, none⟩ = some (.func (.func 90) #[] #[]) ∧ w'.cell? ⟨wr.heap.size, 1, none⟩ = some (.func (.func 91) #[] #[]) ∧ w'.cell? ⟨wr.heap.size, 2, none⟩ = some (.int .i64 11) := fun w' hb' => by
          have hbb := below_all hbW hb'
          refine ⟨cellk hbb c00, cellk hbb c01, cellk hbb c02, cellk hbb c03, cellk hbb c04, cellk hbb c10, cellk hbb c11, cellk hbb c12, cellk hbb c20, cellk hbb c21, cellk hbb c22, cellk hbb c23, cellk hbb c24, cellk hbb c25, ?_, ?_, ?_⟩
          all_goals
            rw [hb'.cell (by rw [hW0]; simp), hW0]
            simp
        rw [← hW0]
        have sk := Lib.hid SK
        clear SK hW0
        go_region_held3 (fun w' => Below W0.heap.size W0 w' ∧ w'.cell? ⟨w.heap.size, 0, none⟩ = some (.int .i64 lf) ∧ w'.cell? ⟨w.heap.size, 1, none⟩ = some (.int .i64 ld) ∧ w'.cell? ⟨w.heap.size, 2, none⟩ = some (.int .i64 la) ∧ w'.cell? ⟨w.heap.size, 3, none⟩ = some (.int .i64 lo) ∧ w'.cell? ⟨w.heap.size, 4, none⟩ = some (.int .i64 lc) ∧ w'.cell? ⟨w.heap.size + 1, 0, none⟩ = some (.int .i64 so) ∧ w'.cell? ⟨w.heap.size + 1, 1, none⟩ = some (.int .i64 sl) ∧ w'.cell? ⟨w.heap.size + 1, 2, none⟩ = some (.int .i64 sc) ∧ w'.cell? ⟨w.heap.size + 1 + 1, 0, none⟩ = some (.int .i64 kd) ∧ w'.cell? ⟨w.heap.size + 1 + 1, 1, none⟩ = some (.string nm) ∧ w'.cell? ⟨w.heap.size + 1 + 1, 2, none⟩ = some (.slice A n c) ∧ w'.cell? ⟨w.heap.size + 1 + 1, 3, none⟩ = some (.string tx) ∧ w'.cell? ⟨w.heap.size + 1 + 1, 4, none⟩ = some (.int .i64 fr) ∧ w'.cell? ⟨w.heap.size + 1 + 1, 5, none⟩ = some (.int .i64 tz) ∧ w'.cell? ⟨wr.heap.size, 0, none⟩ = some (.func (.func 90) #[] #[]) ∧ w'.cell? ⟨wr.heap.size, 1, none⟩ = some (.func (.func 91) #[] #[]) ∧ w'.cell? ⟨wr.heap.size, 2, none⟩ = some (.int .i64 11)) (first | exact ⟨Below.drew (Below.refl _ _), sk.out _ (Below.drew (Below.refl _ _))⟩ | exact ⟨by assumption, sk.out _ (by assumption)⟩) (first | (go_at_call 90; refine (caps_Over.f90' _ _ _ _ _ _ _ _ _ _ _ W0 _ ?_).mono ?_; (simp [*]); rintro e w1 ⟨rfl, hb1⟩) | (go_at_call 91; refine (caps_Over.f91' _ _ _ _ _ W0 _ ?_).mono ?_; (simp [*]); rintro e w2 ⟨rfl, hb2⟩))
        go_wp2
      · go_ret
        refine ⟨?_, hb.trans ((below_all hbW hb2).mono hb.size)⟩
        have q0 := a0.out (by omega)
        have q1 := a1.out (by omega)
        have q2 := a2.out (by omega)
        refine caps_Over.ret_int ?_
        unfold caps_Over.overI
        rw [if_neg (by omega), if_neg (by omega), if_neg (by omega), if_pos (by omega)]
      · go_roundg (4 - (3 + 1))
        case measure => omega
        case rel =>
          have hbx := below_all hbW hb2
          refine ⟨3 + 1, by omega, by omega, by go_num, hb.trans (hbx.mono hb.size), by have := hbx.size; omega, (hbx.block _ (by omega)).trans B0.out, (hbx.block _ (by omega)).trans B1.out, (hbx.block _ (by omega)).trans B2.out, ?_, ?_, ?_, ?_⟩
          · exact fun _ => a0.out (by omega)
          · exact fun _ => a1.out (by omega)
          · exact fun _ => a2.out (by omega)
          · exact fun _ => by omega
    · go_wp2
      go_ret
      refine ⟨?_, hb⟩
      have q0 := a0.out (by omega)
      have q1 := a1.out (by omega)
      have q2 := a2.out (by omega)
      have q3 := a3.out (by omega)
      refine caps_Over.ret_int ?_
      unfold caps_Over.overI
      rw [if_neg (by omega), if_neg (by omega), if_neg (by omega), if_neg (by omega)]
end
def caps_Over.f (_a0_0 a0_1 a0_2 a0_3 a0_4 a1_0 a1_1 a1_2 _a2_0 : Int) (_a2_1 : ByteArray) (l2_2 : List S92) (_a2_3 : ByteArray) (_a2_4 _a2_5 : Int) : Option Int := some (caps_Over.overI a0_1 a0_2 a0_3 a0_4 a1_0 a1_1 a1_2 l2_2.length)
theorem caps_Over.calls (a0_0 a0_1 a0_2 a0_3 a0_4 a1_0 a1_1 a1_2 a2_0 : Int) (a2_1 : ByteArray) (A2_2 : Option Addr) (c2_2 : Nat) (l2_2 : List S92) (a2_3 : ByteArray) (a2_4 a2_5 : Int) (r : Int) (w : World) (hW : Wok w) (_hr2_2 : Kd.C k92 w A2_2 l2_2.length l2_2) (_hc2_2 : l2_2.length ≤ c2_2)
    (h : caps_Over.f a0_0 a0_1 a0_2 a0_3 a0_4 a1_0 a1_1 a1_2 a2_0 a2_1 l2_2 a2_3 a2_4 a2_5 = some r) :
    Calls Tryd.prog 13 #[.agg #[.int .i64 a0_0, .int .i64 a0_1, .int .i64 a0_2, .int .i64 a0_3, .int .i64 a0_4], .agg #[.int .i64 a1_0, .int .i64 a1_1, .int .i64 a1_2], .agg #[.int .i64 a2_0, .string a2_1, .slice A2_2 l2_2.length c2_2, .string a2_3, .int .i64 a2_4, .int .i64 a2_5]] w fun e w' => e = .returned (.int .i64 r) ∧ Below w.heap.size w w' := by
  obtain rfl := Option.some.inj h
  obtain ⟨t, fz, hg⟩ := hW
  exact caps_Over.over_any a0_0 a0_1 a0_2 a0_3 a0_4 a1_0 a1_1 a1_2 a2_0 a2_4 a2_5 a2_1 a2_3 A2_2 l2_2.length c2_2 w t fz hg
end

/-! ### decanterref23_Over: function 14 -/
def decanterref23_Over.f (a0_0 : Int) (a0_1 : Int) (a0_2 : Int) (a0_3 : Int) (a0_4 : Int) (a1_0 : Int) (a1_1 : Int) (a1_2 : Int) (a2_0 : Int) (a2_1 : ByteArray) (l2_2 : List (S91)) (a2_3 : ByteArray) (a2_4 : Int) (a2_5 : Int) : Option (Int) := if (l2_2.length : Int) > a0_2 then (some 9) else (if a1_0 > a0_1 then (some 8) else (if a1_1 > a0_3 then (some 10) else (if a1_2 > a0_4 then (some 11) else (some 0))))
set_option maxHeartbeats 8000000 in
set_option maxRecDepth 100000 in
theorem decanterref23_Over.calls (a0_0 : Int) (a0_1 : Int) (a0_2 : Int) (a0_3 : Int) (a0_4 : Int) (a1_0 : Int) (a1_1 : Int) (a1_2 : Int) (a2_0 : Int) (a2_1 : ByteArray) (A2_2 : Option Addr) (c2_2 : Nat) (l2_2 : List (S91)) (a2_3 : ByteArray) (a2_4 : Int) (a2_5 : Int) (r : Int) (w : World) (hr2_2 : Kd.C k91 w A2_2 l2_2.length l2_2) (hc2_2 : l2_2.length ≤ c2_2) (h : decanterref23_Over.f a0_0 a0_1 a0_2 a0_3 a0_4 a1_0 a1_1 a1_2 a2_0 a2_1 l2_2 a2_3 a2_4 a2_5 = some r) :
    Calls Tryd.prog 14 #[.agg #[.int .i64 a0_0, .int .i64 a0_1, .int .i64 a0_2, .int .i64 a0_3, .int .i64 a0_4], .agg #[.int .i64 a1_0, .int .i64 a1_1, .int .i64 a1_2], .agg #[.int .i64 a2_0, .string a2_1, .slice A2_2 l2_2.length c2_2, .string a2_3, .int .i64 a2_4, .int .i64 a2_5]] w fun e w' => e = .returned (.int .i64 r) ∧ Below w.heap.size w w' := by
  have hu23 := Tryd.underlying23
  have hu25 := Tryd.underlying25
  have hu28 := Tryd.underlying28
  have HR2_2 := Aside0.mk hr2_2
  have HC2_2 := Aside0.mk hc2_2
  clear hr2_2 hc2_2
  have HB := Aside0.mk (Below.refl w.heap.size w)
  have H : (if (l2_2.length : Int) > a0_2 then (some 9) else (if a1_0 > a0_1 then (some 8) else (if a1_1 > a0_3 then (some 10) else (if a1_2 > a0_4 then (some 11) else (some 0))))) = some r := h
  clear h
  by_cases c4 : (l2_2.length : Int) > a0_2
  · rw [if_pos c4] at H
    have c4b0 : decide (a0_2 < (l2_2.length : Int)) = true := decide_eq_true c4
    clear c4
    obtain rfl := Option.some.inj H
    go_enter Tryd.func14, Tryd.ntmps14
    go_wp2_with (first | ((with_reducible refine gate_dst (N := 3) rfl ?_); refine box_event ?hg (N := 3) ?hd (cs := #[.int .i64 a0_0, .int .i64 a0_1, .int .i64 a0_2, .int .i64 a0_3, .int .i64 a0_4]) (t := 23) ?hr ?_; (case hd => rfl); (case hg => rfl); (case hr => first | (go_simp; done) | (go_simp; rfl)); intro gb118 hg w5 hbox hb; have n0_ := Aside0.mk (below_step (by repeat (first | (with_reducible first | exact HB.out | apply below_alloc | apply pw_below_drewN | apply below_drew1) | exact HB.out)) hb); have n1_ := Aside0.mk (hbox); have n2_ := Aside0.mk ((by rw [hg]; exact (below_size (by repeat (first | (with_reducible first | exact HB.out | apply below_alloc | apply pw_below_drewN | apply below_drew1) | exact HB.out))) : w.heap.size ≤ gb118)); have n3_ := Aside0.mk ((by rw [hg]; exact (below_size (by repeat (first | (with_reducible first | exact HB.out | apply below_alloc | apply pw_below_drewN | apply below_drew1) | exact HB.out))) : w.heap.size ≤ gb118)); clear HB; have HB := n0_; have BK118 := n1_; have GW118 := n2_; have GE118 := n3_; clear n0_ n1_ n2_ n3_; clear hb hbox hg) | ((with_reducible refine gate_dst (N := 4) rfl ?_); refine box_event ?hg (N := 4) ?hd (cs := #[.int .i64 a1_0, .int .i64 a1_1, .int .i64 a1_2]) (t := 25) ?hr ?_; (case hd => rfl); (case hg => rfl); (case hr => first | (go_simp; done) | (go_simp; rfl)); intro gb119 hg w6 hbox hb; have n0_ := Aside0.mk (blk_below (g := gb118) (o := .cells #[.int .i64 a0_0, .int .i64 a0_1, .int .i64 a0_2, .int .i64 a0_3, .int .i64 a0_4] 23 (0, 0)) (by (with_reducible repeat (first | refine blk_drewN ?_ _ | refine blk_drew ?_ | refine blk_alloc ?_ _)); exact BK118.out) hb); have n1_ := Aside0.mk (below_step (by repeat (first | (with_reducible first | exact HB.out | apply below_alloc | apply pw_below_drewN | apply below_drew1 | refine below_set ?_ GE118.out) | exact HB.out)) hb); have n2_ := Aside0.mk (hbox); have n3_ := Aside0.mk ((by rw [hg]; exact (below_size (by repeat (first | (with_reducible first | exact HB.out | apply below_alloc | apply pw_below_drewN | apply below_drew1 | refine below_set ?_ GE118.out) | exact HB.out))) : w.heap.size ≤ gb119)); have n4_ := Aside0.mk ((by rw [hg]; exact (below_size (by repeat (first | (with_reducible first | exact HB.out | apply below_alloc | apply pw_below_drewN | apply below_drew1 | refine below_set ?_ GE118.out) | exact HB.out))) : w.heap.size ≤ gb119)); have n5_ := Aside0.mk ((by rw [hg]; exact Nat.ne_of_lt (blk_lt (g := gb118) (o := .cells #[.int .i64 a0_0, .int .i64 a0_1, .int .i64 a0_2, .int .i64 a0_3, .int .i64 a0_4] 23 (0, 0)) (by (with_reducible repeat (first | refine blk_drewN ?_ _ | refine blk_drew ?_ | refine blk_alloc ?_ _)); exact BK118.out)) : gb118 ≠ gb119)); have n6_ := Aside0.mk ((by rw [hg]; exact Nat.ne_of_gt (blk_lt (g := gb118) (o := .cells #[.int .i64 a0_0, .int .i64 a0_1, .int .i64 a0_2, .int .i64 a0_3, .int .i64 a0_4] 23 (0, 0)) (by (with_reducible repeat (first | refine blk_drewN ?_ _ | refine blk_drew ?_ | refine blk_alloc ?_ _)); exact BK118.out)) : gb119 ≠ gb118)); clear BK118; clear HB; have BK118 := n0_; have HB := n1_; have BK119 := n2_; have GW119 := n3_; have GE119 := n4_; have NB118_119 := n5_; have NB119_118 := n6_; clear n0_ n1_ n2_ n3_ n4_ n5_ n6_; clear hb hbox hg) | ((with_reducible refine gate_dst (N := 5) rfl ?_); refine box_event ?hg (N := 5) ?hd (cs := #[.int .i64 a2_0, .string a2_1, .slice A2_2 l2_2.length c2_2, .string a2_3, .int .i64 a2_4, .int .i64 a2_5]) (t := 28) ?hr ?_; (case hd => rfl); (case hg => rfl); (case hr => first | (go_simp; done) | (go_simp; rfl)); intro gb120 hg w7 hbox hb; have n0_ := Aside0.mk (blk_below (g := gb118) (o := .cells #[.int .i64 a0_0, .int .i64 a0_1, .int .i64 a0_2, .int .i64 a0_3, .int .i64 a0_4] 23 (0, 0)) (by (with_reducible repeat (first | refine blk_drewN ?_ _ | refine blk_drew ?_ | refine blk_alloc ?_ _)); exact BK118.out) hb); have n1_ := Aside0.mk (blk_below (g := gb119) (o := .cells #[.int .i64 a1_0, .int .i64 a1_1, .int .i64 a1_2] 25 (0, 0)) (by (with_reducible repeat (first | refine blk_drewN ?_ _ | refine blk_drew ?_ | refine blk_alloc ?_ _)); exact BK119.out) hb); have n2_ := Aside0.mk (below_step (by repeat (first | (with_reducible first | exact HB.out | apply below_alloc | apply pw_below_drewN | apply below_drew1 | refine below_set ?_ GE118.out | refine below_set ?_ GE119.out) | exact HB.out)) hb); have n3_ := Aside0.mk (hbox); have n4_ := Aside0.mk ((by rw [hg]; exact (below_size (by repeat (first | (with_reducible first | exact HB.out | apply below_alloc | apply pw_below_drewN | apply below_drew1 | refine below_set ?_ GE118.out | refine below_set ?_ GE119.out) | exact HB.out))) : w.heap.size ≤ gb120)); have n5_ := Aside0.mk ((by rw [hg]; exact (below_size (by repeat (first | (with_reducible first | exact HB.out | apply below_alloc | apply pw_below_drewN | apply below_drew1 | refine below_set ?_ GE118.out | refine below_set ?_ GE119.out) | exact HB.out))) : w.heap.size ≤ gb120)); have n6_ := Aside0.mk ((by rw [hg]; exact Nat.ne_of_lt (blk_lt (g := gb118) (o := .cells #[.int .i64 a0_0, .int .i64 a0_1, .int .i64 a0_2, .int .i64 a0_3, .int .i64 a0_4] 23 (0, 0)) (by (with_reducible repeat (first | refine blk_drewN ?_ _ | refine blk_drew ?_ | refine blk_alloc ?_ _)); exact BK118.out)) : gb118 ≠ gb120)); have n7_ := Aside0.mk ((by rw [hg]; exact Nat.ne_of_gt (blk_lt (g := gb118) (o := .cells #[.int .i64 a0_0, .int .i64 a0_1, .int .i64 a0_2, .int .i64 a0_3, .int .i64 a0_4] 23 (0, 0)) (by (with_reducible repeat (first | refine blk_drewN ?_ _ | refine blk_drew ?_ | refine blk_alloc ?_ _)); exact BK118.out)) : gb120 ≠ gb118)); have n8_ := Aside0.mk ((by rw [hg]; exact Nat.ne_of_lt (blk_lt (g := gb119) (o := .cells #[.int .i64 a1_0, .int .i64 a1_1, .int .i64 a1_2] 25 (0, 0)) (by (with_reducible repeat (first | refine blk_drewN ?_ _ | refine blk_drew ?_ | refine blk_alloc ?_ _)); exact BK119.out)) : gb119 ≠ gb120)); have n9_ := Aside0.mk ((by rw [hg]; exact Nat.ne_of_gt (blk_lt (g := gb119) (o := .cells #[.int .i64 a1_0, .int .i64 a1_1, .int .i64 a1_2] 25 (0, 0)) (by (with_reducible repeat (first | refine blk_drewN ?_ _ | refine blk_drew ?_ | refine blk_alloc ?_ _)); exact BK119.out)) : gb120 ≠ gb119)); clear BK118; clear BK119; clear HB; have BK118 := n0_; have BK119 := n1_; have HB := n2_; have BK120 := n3_; have GW120 := n4_; have GE120 := n5_; have NB118_120 := n6_; have NB120_118 := n7_; have NB119_120 := n8_; have NB120_119 := n9_; clear n0_ n1_ n2_ n3_ n4_ n5_ n6_ n7_ n8_ n9_; clear hb hbox hg; have hnb8 := NB120_118.out; have hnc8 := NB118_120.out; have hnb9 := NB120_119.out; have hnc9 := NB119_120.out; have hcz10_0 : w7.cell? ⟨gb120, 0, none⟩ = some (.int .i64 a2_0) := (blk_cell BK120.out 0).trans rfl; have hcz10_1 : w7.cell? ⟨gb120, 1, none⟩ = some (.string a2_1) := (blk_cell BK120.out 1).trans rfl; have hcz10_2 : w7.cell? ⟨gb120, 2, none⟩ = some (.slice A2_2 l2_2.length c2_2) := (blk_cell BK120.out 2).trans rfl; have hcz10_3 : w7.cell? ⟨gb120, 3, none⟩ = some (.string a2_3) := (blk_cell BK120.out 3).trans rfl; have hcz10_4 : w7.cell? ⟨gb120, 4, none⟩ = some (.int .i64 a2_4) := (blk_cell BK120.out 4).trans rfl; have hcz10_5 : w7.cell? ⟨gb120, 5, none⟩ = some (.int .i64 a2_5) := (blk_cell BK120.out 5).trans rfl; have hfz10_0 := blk_frozen BK120.out 0; have hfz10_1 := blk_frozen BK120.out 1; have hfz10_2 := blk_frozen BK120.out 2; have hfz10_3 := blk_frozen BK120.out 3; have hfz10_4 := blk_frozen BK120.out 4; have hfz10_5 := blk_frozen BK120.out 5; have hnb11 := NB118_119.out; have hnc11 := NB119_118.out; have hcz12_0 : w7.cell? ⟨gb118, 0, none⟩ = some (.int .i64 a0_0) := (blk_cell BK118.out 0).trans rfl; have hcz12_1 : w7.cell? ⟨gb118, 1, none⟩ = some (.int .i64 a0_1) := (blk_cell BK118.out 1).trans rfl; have hcz12_2 : w7.cell? ⟨gb118, 2, none⟩ = some (.int .i64 a0_2) := (blk_cell BK118.out 2).trans rfl; have hcz12_3 : w7.cell? ⟨gb118, 3, none⟩ = some (.int .i64 a0_3) := (blk_cell BK118.out 3).trans rfl; have hcz12_4 : w7.cell? ⟨gb118, 4, none⟩ = some (.int .i64 a0_4) := (blk_cell BK118.out 4).trans rfl; have hfz12_0 := blk_frozen BK118.out 0; have hfz12_1 := blk_frozen BK118.out 1; have hfz12_2 := blk_frozen BK118.out 2; have hfz12_3 := blk_frozen BK118.out 3; have hfz12_4 := blk_frozen BK118.out 4))
    go_ret
    exact ⟨by first | rfl | (simp [errW_none, errW_some] <;> rfl) | (simp [*, errW_none, errW_some] <;> rfl), by repeat (first | (with_reducible first | exact HB.out | apply below_alloc | apply pw_below_drewN | apply below_drew1 | refine below_set ?_ GE118.out | refine below_set ?_ GE119.out | refine below_set ?_ GE120.out) | exact HB.out)⟩
  · rw [if_neg c4] at H
    have c4b0 : decide (a0_2 < (l2_2.length : Int)) = false := decide_eq_false c4
    clear c4
    by_cases c13 : a1_0 > a0_1
    · rw [if_pos c13] at H
      have c13b0 : decide (a0_1 < a1_0) = true := decide_eq_true c13
      clear c13
      obtain rfl := Option.some.inj H
      go_enter Tryd.func14, Tryd.ntmps14
      go_wp2_with (first | ((with_reducible refine gate_dst (N := 3) rfl ?_); refine box_event ?hg (N := 3) ?hd (cs := #[.int .i64 a0_0, .int .i64 a0_1, .int .i64 a0_2, .int .i64 a0_3, .int .i64 a0_4]) (t := 23) ?hr ?_; (case hd => rfl); (case hg => rfl); (case hr => first | (go_simp; done) | (go_simp; rfl)); intro gb118 hg w14 hbox hb; have n0_ := Aside0.mk (below_step (by repeat (first | (with_reducible first | exact HB.out | apply below_alloc | apply pw_below_drewN | apply below_drew1) | exact HB.out)) hb); have n1_ := Aside0.mk (hbox); have n2_ := Aside0.mk ((by rw [hg]; exact (below_size (by repeat (first | (with_reducible first | exact HB.out | apply below_alloc | apply pw_below_drewN | apply below_drew1) | exact HB.out))) : w.heap.size ≤ gb118)); have n3_ := Aside0.mk ((by rw [hg]; exact (below_size (by repeat (first | (with_reducible first | exact HB.out | apply below_alloc | apply pw_below_drewN | apply below_drew1) | exact HB.out))) : w.heap.size ≤ gb118)); clear HB; have HB := n0_; have BK118 := n1_; have GW118 := n2_; have GE118 := n3_; clear n0_ n1_ n2_ n3_; clear hb hbox hg) | ((with_reducible refine gate_dst (N := 4) rfl ?_); refine box_event ?hg (N := 4) ?hd (cs := #[.int .i64 a1_0, .int .i64 a1_1, .int .i64 a1_2]) (t := 25) ?hr ?_; (case hd => rfl); (case hg => rfl); (case hr => first | (go_simp; done) | (go_simp; rfl)); intro gb119 hg w15 hbox hb; have n0_ := Aside0.mk (blk_below (g := gb118) (o := .cells #[.int .i64 a0_0, .int .i64 a0_1, .int .i64 a0_2, .int .i64 a0_3, .int .i64 a0_4] 23 (0, 0)) (by (with_reducible repeat (first | refine blk_drewN ?_ _ | refine blk_drew ?_ | refine blk_alloc ?_ _)); exact BK118.out) hb); have n1_ := Aside0.mk (below_step (by repeat (first | (with_reducible first | exact HB.out | apply below_alloc | apply pw_below_drewN | apply below_drew1 | refine below_set ?_ GE118.out) | exact HB.out)) hb); have n2_ := Aside0.mk (hbox); have n3_ := Aside0.mk ((by rw [hg]; exact (below_size (by repeat (first | (with_reducible first | exact HB.out | apply below_alloc | apply pw_below_drewN | apply below_drew1 | refine below_set ?_ GE118.out) | exact HB.out))) : w.heap.size ≤ gb119)); have n4_ := Aside0.mk ((by rw [hg]; exact (below_size (by repeat (first | (with_reducible first | exact HB.out | apply below_alloc | apply pw_below_drewN | apply below_drew1 | refine below_set ?_ GE118.out) | exact HB.out))) : w.heap.size ≤ gb119)); have n5_ := Aside0.mk ((by rw [hg]; exact Nat.ne_of_lt (blk_lt (g := gb118) (o := .cells #[.int .i64 a0_0, .int .i64 a0_1, .int .i64 a0_2, .int .i64 a0_3, .int .i64 a0_4] 23 (0, 0)) (by (with_reducible repeat (first | refine blk_drewN ?_ _ | refine blk_drew ?_ | refine blk_alloc ?_ _)); exact BK118.out)) : gb118 ≠ gb119)); have n6_ := Aside0.mk ((by rw [hg]; exact Nat.ne_of_gt (blk_lt (g := gb118) (o := .cells #[.int .i64 a0_0, .int .i64 a0_1, .int .i64 a0_2, .int .i64 a0_3, .int .i64 a0_4] 23 (0, 0)) (by (with_reducible repeat (first | refine blk_drewN ?_ _ | refine blk_drew ?_ | refine blk_alloc ?_ _)); exact BK118.out)) : gb119 ≠ gb118)); clear BK118; clear HB; have BK118 := n0_; have HB := n1_; have BK119 := n2_; have GW119 := n3_; have GE119 := n4_; have NB118_119 := n5_; have NB119_118 := n6_; clear n0_ n1_ n2_ n3_ n4_ n5_ n6_; clear hb hbox hg) | ((with_reducible refine gate_dst (N := 5) rfl ?_); refine box_event ?hg (N := 5) ?hd (cs := #[.int .i64 a2_0, .string a2_1, .slice A2_2 l2_2.length c2_2, .string a2_3, .int .i64 a2_4, .int .i64 a2_5]) (t := 28) ?hr ?_; (case hd => rfl); (case hg => rfl); (case hr => first | (go_simp; done) | (go_simp; rfl)); intro gb120 hg w16 hbox hb; have n0_ := Aside0.mk (blk_below (g := gb118) (o := .cells #[.int .i64 a0_0, .int .i64 a0_1, .int .i64 a0_2, .int .i64 a0_3, .int .i64 a0_4] 23 (0, 0)) (by (with_reducible repeat (first | refine blk_drewN ?_ _ | refine blk_drew ?_ | refine blk_alloc ?_ _)); exact BK118.out) hb); have n1_ := Aside0.mk (blk_below (g := gb119) (o := .cells #[.int .i64 a1_0, .int .i64 a1_1, .int .i64 a1_2] 25 (0, 0)) (by (with_reducible repeat (first | refine blk_drewN ?_ _ | refine blk_drew ?_ | refine blk_alloc ?_ _)); exact BK119.out) hb); have n2_ := Aside0.mk (below_step (by repeat (first | (with_reducible first | exact HB.out | apply below_alloc | apply pw_below_drewN | apply below_drew1 | refine below_set ?_ GE118.out | refine below_set ?_ GE119.out) | exact HB.out)) hb); have n3_ := Aside0.mk (hbox); have n4_ := Aside0.mk ((by rw [hg]; exact (below_size (by repeat (first | (with_reducible first | exact HB.out | apply below_alloc | apply pw_below_drewN | apply below_drew1 | refine below_set ?_ GE118.out | refine below_set ?_ GE119.out) | exact HB.out))) : w.heap.size ≤ gb120)); have n5_ := Aside0.mk ((by rw [hg]; exact (below_size (by repeat (first | (with_reducible first | exact HB.out | apply below_alloc | apply pw_below_drewN | apply below_drew1 | refine below_set ?_ GE118.out | refine below_set ?_ GE119.out) | exact HB.out))) : w.heap.size ≤ gb120)); have n6_ := Aside0.mk ((by rw [hg]; exact Nat.ne_of_lt (blk_lt (g := gb118) (o := .cells #[.int .i64 a0_0, .int .i64 a0_1, .int .i64 a0_2, .int .i64 a0_3, .int .i64 a0_4] 23 (0, 0)) (by (with_reducible repeat (first | refine blk_drewN ?_ _ | refine blk_drew ?_ | refine blk_alloc ?_ _)); exact BK118.out)) : gb118 ≠ gb120)); have n7_ := Aside0.mk ((by rw [hg]; exact Nat.ne_of_gt (blk_lt (g := gb118) (o := .cells #[.int .i64 a0_0, .int .i64 a0_1, .int .i64 a0_2, .int .i64 a0_3, .int .i64 a0_4] 23 (0, 0)) (by (with_reducible repeat (first | refine blk_drewN ?_ _ | refine blk_drew ?_ | refine blk_alloc ?_ _)); exact BK118.out)) : gb120 ≠ gb118)); have n8_ := Aside0.mk ((by rw [hg]; exact Nat.ne_of_lt (blk_lt (g := gb119) (o := .cells #[.int .i64 a1_0, .int .i64 a1_1, .int .i64 a1_2] 25 (0, 0)) (by (with_reducible repeat (first | refine blk_drewN ?_ _ | refine blk_drew ?_ | refine blk_alloc ?_ _)); exact BK119.out)) : gb119 ≠ gb120)); have n9_ := Aside0.mk ((by rw [hg]; exact Nat.ne_of_gt (blk_lt (g := gb119) (o := .cells #[.int .i64 a1_0, .int .i64 a1_1, .int .i64 a1_2] 25 (0, 0)) (by (with_reducible repeat (first | refine blk_drewN ?_ _ | refine blk_drew ?_ | refine blk_alloc ?_ _)); exact BK119.out)) : gb120 ≠ gb119)); clear BK118; clear BK119; clear HB; have BK118 := n0_; have BK119 := n1_; have HB := n2_; have BK120 := n3_; have GW120 := n4_; have GE120 := n5_; have NB118_120 := n6_; have NB120_118 := n7_; have NB119_120 := n8_; have NB120_119 := n9_; clear n0_ n1_ n2_ n3_ n4_ n5_ n6_ n7_ n8_ n9_; clear hb hbox hg; have hnb17 := NB120_118.out; have hnc17 := NB118_120.out; have hnb18 := NB120_119.out; have hnc18 := NB119_120.out; have hcz19_0 : w16.cell? ⟨gb120, 0, none⟩ = some (.int .i64 a2_0) := (blk_cell BK120.out 0).trans rfl; have hcz19_1 : w16.cell? ⟨gb120, 1, none⟩ = some (.string a2_1) := (blk_cell BK120.out 1).trans rfl; have hcz19_2 : w16.cell? ⟨gb120, 2, none⟩ = some (.slice A2_2 l2_2.length c2_2) := (blk_cell BK120.out 2).trans rfl; have hcz19_3 : w16.cell? ⟨gb120, 3, none⟩ = some (.string a2_3) := (blk_cell BK120.out 3).trans rfl; have hcz19_4 : w16.cell? ⟨gb120, 4, none⟩ = some (.int .i64 a2_4) := (blk_cell BK120.out 4).trans rfl; have hcz19_5 : w16.cell? ⟨gb120, 5, none⟩ = some (.int .i64 a2_5) := (blk_cell BK120.out 5).trans rfl; have hfz19_0 := blk_frozen BK120.out 0; have hfz19_1 := blk_frozen BK120.out 1; have hfz19_2 := blk_frozen BK120.out 2; have hfz19_3 := blk_frozen BK120.out 3; have hfz19_4 := blk_frozen BK120.out 4; have hfz19_5 := blk_frozen BK120.out 5; have hnb20 := NB118_119.out; have hnc20 := NB119_118.out; have hcz21_0 : w16.cell? ⟨gb118, 0, none⟩ = some (.int .i64 a0_0) := (blk_cell BK118.out 0).trans rfl; have hcz21_1 : w16.cell? ⟨gb118, 1, none⟩ = some (.int .i64 a0_1) := (blk_cell BK118.out 1).trans rfl; have hcz21_2 : w16.cell? ⟨gb118, 2, none⟩ = some (.int .i64 a0_2) := (blk_cell BK118.out 2).trans rfl; have hcz21_3 : w16.cell? ⟨gb118, 3, none⟩ = some (.int .i64 a0_3) := (blk_cell BK118.out 3).trans rfl; have hcz21_4 : w16.cell? ⟨gb118, 4, none⟩ = some (.int .i64 a0_4) := (blk_cell BK118.out 4).trans rfl; have hfz21_0 := blk_frozen BK118.out 0; have hfz21_1 := blk_frozen BK118.out 1; have hfz21_2 := blk_frozen BK118.out 2; have hfz21_3 := blk_frozen BK118.out 3; have hfz21_4 := blk_frozen BK118.out 4; have hcz22_0 : w16.cell? ⟨gb119, 0, none⟩ = some (.int .i64 a1_0) := (blk_cell BK119.out 0).trans rfl; have hcz22_1 : w16.cell? ⟨gb119, 1, none⟩ = some (.int .i64 a1_1) := (blk_cell BK119.out 1).trans rfl; have hcz22_2 : w16.cell? ⟨gb119, 2, none⟩ = some (.int .i64 a1_2) := (blk_cell BK119.out 2).trans rfl; have hfz22_0 := blk_frozen BK119.out 0; have hfz22_1 := blk_frozen BK119.out 1; have hfz22_2 := blk_frozen BK119.out 2))
      go_ret
      exact ⟨by first | rfl | (simp [errW_none, errW_some] <;> rfl) | (simp [*, errW_none, errW_some] <;> rfl), by repeat (first | (with_reducible first | exact HB.out | apply below_alloc | apply pw_below_drewN | apply below_drew1 | refine below_set ?_ GE118.out | refine below_set ?_ GE119.out | refine below_set ?_ GE120.out) | exact HB.out)⟩
    · rw [if_neg c13] at H
      have c13b0 : decide (a0_1 < a1_0) = false := decide_eq_false c13
      clear c13
      by_cases c23 : a1_1 > a0_3
      · rw [if_pos c23] at H
        have c23b0 : decide (a0_3 < a1_1) = true := decide_eq_true c23
        clear c23
        obtain rfl := Option.some.inj H
        go_enter Tryd.func14, Tryd.ntmps14
        go_wp2_with (first | ((with_reducible refine gate_dst (N := 3) rfl ?_); refine box_event ?hg (N := 3) ?hd (cs := #[.int .i64 a0_0, .int .i64 a0_1, .int .i64 a0_2, .int .i64 a0_3, .int .i64 a0_4]) (t := 23) ?hr ?_; (case hd => rfl); (case hg => rfl); (case hr => first | (go_simp; done) | (go_simp; rfl)); intro gb118 hg w24 hbox hb; have n0_ := Aside0.mk (below_step (by repeat (first | (with_reducible first | exact HB.out | apply below_alloc | apply pw_below_drewN | apply below_drew1) | exact HB.out)) hb); have n1_ := Aside0.mk (hbox); have n2_ := Aside0.mk ((by rw [hg]; exact (below_size (by repeat (first | (with_reducible first | exact HB.out | apply below_alloc | apply pw_below_drewN | apply below_drew1) | exact HB.out))) : w.heap.size ≤ gb118)); have n3_ := Aside0.mk ((by rw [hg]; exact (below_size (by repeat (first | (with_reducible first | exact HB.out | apply below_alloc | apply pw_below_drewN | apply below_drew1) | exact HB.out))) : w.heap.size ≤ gb118)); clear HB; have HB := n0_; have BK118 := n1_; have GW118 := n2_; have GE118 := n3_; clear n0_ n1_ n2_ n3_; clear hb hbox hg) | ((with_reducible refine gate_dst (N := 4) rfl ?_); refine box_event ?hg (N := 4) ?hd (cs := #[.int .i64 a1_0, .int .i64 a1_1, .int .i64 a1_2]) (t := 25) ?hr ?_; (case hd => rfl); (case hg => rfl); (case hr => first | (go_simp; done) | (go_simp; rfl)); intro gb119 hg w25 hbox hb; have n0_ := Aside0.mk (blk_below (g := gb118) (o := .cells #[.int .i64 a0_0, .int .i64 a0_1, .int .i64 a0_2, .int .i64 a0_3, .int .i64 a0_4] 23 (0, 0)) (by (with_reducible repeat (first | refine blk_drewN ?_ _ | refine blk_drew ?_ | refine blk_alloc ?_ _)); exact BK118.out) hb); have n1_ := Aside0.mk (below_step (by repeat (first | (with_reducible first | exact HB.out | apply below_alloc | apply pw_below_drewN | apply below_drew1 | refine below_set ?_ GE118.out) | exact HB.out)) hb); have n2_ := Aside0.mk (hbox); have n3_ := Aside0.mk ((by rw [hg]; exact (below_size (by repeat (first | (with_reducible first | exact HB.out | apply below_alloc | apply pw_below_drewN | apply below_drew1 | refine below_set ?_ GE118.out) | exact HB.out))) : w.heap.size ≤ gb119)); have n4_ := Aside0.mk ((by rw [hg]; exact (below_size (by repeat (first | (with_reducible first | exact HB.out | apply below_alloc | apply pw_below_drewN | apply below_drew1 | refine below_set ?_ GE118.out) | exact HB.out))) : w.heap.size ≤ gb119)); have n5_ := Aside0.mk ((by rw [hg]; exact Nat.ne_of_lt (blk_lt (g := gb118) (o := .cells #[.int .i64 a0_0, .int .i64 a0_1, .int .i64 a0_2, .int .i64 a0_3, .int .i64 a0_4] 23 (0, 0)) (by (with_reducible repeat (first | refine blk_drewN ?_ _ | refine blk_drew ?_ | refine blk_alloc ?_ _)); exact BK118.out)) : gb118 ≠ gb119)); have n6_ := Aside0.mk ((by rw [hg]; exact Nat.ne_of_gt (blk_lt (g := gb118) (o := .cells #[.int .i64 a0_0, .int .i64 a0_1, .int .i64 a0_2, .int .i64 a0_3, .int .i64 a0_4] 23 (0, 0)) (by (with_reducible repeat (first | refine blk_drewN ?_ _ | refine blk_drew ?_ | refine blk_alloc ?_ _)); exact BK118.out)) : gb119 ≠ gb118)); clear BK118; clear HB; have BK118 := n0_; have HB := n1_; have BK119 := n2_; have GW119 := n3_; have GE119 := n4_; have NB118_119 := n5_; have NB119_118 := n6_; clear n0_ n1_ n2_ n3_ n4_ n5_ n6_; clear hb hbox hg) | ((with_reducible refine gate_dst (N := 5) rfl ?_); refine box_event ?hg (N := 5) ?hd (cs := #[.int .i64 a2_0, .string a2_1, .slice A2_2 l2_2.length c2_2, .string a2_3, .int .i64 a2_4, .int .i64 a2_5]) (t := 28) ?hr ?_; (case hd => rfl); (case hg => rfl); (case hr => first | (go_simp; done) | (go_simp; rfl)); intro gb120 hg w26 hbox hb; have n0_ := Aside0.mk (blk_below (g := gb118) (o := .cells #[.int .i64 a0_0, .int .i64 a0_1, .int .i64 a0_2, .int .i64 a0_3, .int .i64 a0_4] 23 (0, 0)) (by (with_reducible repeat (first | refine blk_drewN ?_ _ | refine blk_drew ?_ | refine blk_alloc ?_ _)); exact BK118.out) hb); have n1_ := Aside0.mk (blk_below (g := gb119) (o := .cells #[.int .i64 a1_0, .int .i64 a1_1, .int .i64 a1_2] 25 (0, 0)) (by (with_reducible repeat (first | refine blk_drewN ?_ _ | refine blk_drew ?_ | refine blk_alloc ?_ _)); exact BK119.out) hb); have n2_ := Aside0.mk (below_step (by repeat (first | (with_reducible first | exact HB.out | apply below_alloc | apply pw_below_drewN | apply below_drew1 | refine below_set ?_ GE118.out | refine below_set ?_ GE119.out) | exact HB.out)) hb); have n3_ := Aside0.mk (hbox); have n4_ := Aside0.mk ((by rw [hg]; exact (below_size (by repeat (first | (with_reducible first | exact HB.out | apply below_alloc | apply pw_below_drewN | apply below_drew1 | refine below_set ?_ GE118.out | refine below_set ?_ GE119.out) | exact HB.out))) : w.heap.size ≤ gb120)); have n5_ := Aside0.mk ((by rw [hg]; exact (below_size (by repeat (first | (with_reducible first | exact HB.out | apply below_alloc | apply pw_below_drewN | apply below_drew1 | refine below_set ?_ GE118.out | refine below_set ?_ GE119.out) | exact HB.out))) : w.heap.size ≤ gb120)); have n6_ := Aside0.mk ((by rw [hg]; exact Nat.ne_of_lt (blk_lt (g := gb118) (o := .cells #[.int .i64 a0_0, .int .i64 a0_1, .int .i64 a0_2, .int .i64 a0_3, .int .i64 a0_4] 23 (0, 0)) (by (with_reducible repeat (first | refine blk_drewN ?_ _ | refine blk_drew ?_ | refine blk_alloc ?_ _)); exact BK118.out)) : gb118 ≠ gb120)); have n7_ := Aside0.mk ((by rw [hg]; exact Nat.ne_of_gt (blk_lt (g := gb118) (o := .cells #[.int .i64 a0_0, .int .i64 a0_1, .int .i64 a0_2, .int .i64 a0_3, .int .i64 a0_4] 23 (0, 0)) (by (with_reducible repeat (first | refine blk_drewN ?_ _ | refine blk_drew ?_ | refine blk_alloc ?_ _)); exact BK118.out)) : gb120 ≠ gb118)); have n8_ := Aside0.mk ((by rw [hg]; exact Nat.ne_of_lt (blk_lt (g := gb119) (o := .cells #[.int .i64 a1_0, .int .i64 a1_1, .int .i64 a1_2] 25 (0, 0)) (by (with_reducible repeat (first | refine blk_drewN ?_ _ | refine blk_drew ?_ | refine blk_alloc ?_ _)); exact BK119.out)) : gb119 ≠ gb120)); have n9_ := Aside0.mk ((by rw [hg]; exact Nat.ne_of_gt (blk_lt (g := gb119) (o := .cells #[.int .i64 a1_0, .int .i64 a1_1, .int .i64 a1_2] 25 (0, 0)) (by (with_reducible repeat (first | refine blk_drewN ?_ _ | refine blk_drew ?_ | refine blk_alloc ?_ _)); exact BK119.out)) : gb120 ≠ gb119)); clear BK118; clear BK119; clear HB; have BK118 := n0_; have BK119 := n1_; have HB := n2_; have BK120 := n3_; have GW120 := n4_; have GE120 := n5_; have NB118_120 := n6_; have NB120_118 := n7_; have NB119_120 := n8_; have NB120_119 := n9_; clear n0_ n1_ n2_ n3_ n4_ n5_ n6_ n7_ n8_ n9_; clear hb hbox hg; have hnb27 := NB120_118.out; have hnc27 := NB118_120.out; have hnb28 := NB120_119.out; have hnc28 := NB119_120.out; have hcz29_0 : w26.cell? ⟨gb120, 0, none⟩ = some (.int .i64 a2_0) := (blk_cell BK120.out 0).trans rfl; have hcz29_1 : w26.cell? ⟨gb120, 1, none⟩ = some (.string a2_1) := (blk_cell BK120.out 1).trans rfl; have hcz29_2 : w26.cell? ⟨gb120, 2, none⟩ = some (.slice A2_2 l2_2.length c2_2) := (blk_cell BK120.out 2).trans rfl; have hcz29_3 : w26.cell? ⟨gb120, 3, none⟩ = some (.string a2_3) := (blk_cell BK120.out 3).trans rfl; have hcz29_4 : w26.cell? ⟨gb120, 4, none⟩ = some (.int .i64 a2_4) := (blk_cell BK120.out 4).trans rfl; have hcz29_5 : w26.cell? ⟨gb120, 5, none⟩ = some (.int .i64 a2_5) := (blk_cell BK120.out 5).trans rfl; have hfz29_0 := blk_frozen BK120.out 0; have hfz29_1 := blk_frozen BK120.out 1; have hfz29_2 := blk_frozen BK120.out 2; have hfz29_3 := blk_frozen BK120.out 3; have hfz29_4 := blk_frozen BK120.out 4; have hfz29_5 := blk_frozen BK120.out 5; have hnb30 := NB118_119.out; have hnc30 := NB119_118.out; have hcz31_0 : w26.cell? ⟨gb118, 0, none⟩ = some (.int .i64 a0_0) := (blk_cell BK118.out 0).trans rfl; have hcz31_1 : w26.cell? ⟨gb118, 1, none⟩ = some (.int .i64 a0_1) := (blk_cell BK118.out 1).trans rfl; have hcz31_2 : w26.cell? ⟨gb118, 2, none⟩ = some (.int .i64 a0_2) := (blk_cell BK118.out 2).trans rfl; have hcz31_3 : w26.cell? ⟨gb118, 3, none⟩ = some (.int .i64 a0_3) := (blk_cell BK118.out 3).trans rfl; have hcz31_4 : w26.cell? ⟨gb118, 4, none⟩ = some (.int .i64 a0_4) := (blk_cell BK118.out 4).trans rfl; have hfz31_0 := blk_frozen BK118.out 0; have hfz31_1 := blk_frozen BK118.out 1; have hfz31_2 := blk_frozen BK118.out 2; have hfz31_3 := blk_frozen BK118.out 3; have hfz31_4 := blk_frozen BK118.out 4; have hcz32_0 : w26.cell? ⟨gb119, 0, none⟩ = some (.int .i64 a1_0) := (blk_cell BK119.out 0).trans rfl; have hcz32_1 : w26.cell? ⟨gb119, 1, none⟩ = some (.int .i64 a1_1) := (blk_cell BK119.out 1).trans rfl; have hcz32_2 : w26.cell? ⟨gb119, 2, none⟩ = some (.int .i64 a1_2) := (blk_cell BK119.out 2).trans rfl; have hfz32_0 := blk_frozen BK119.out 0; have hfz32_1 := blk_frozen BK119.out 1; have hfz32_2 := blk_frozen BK119.out 2))
        go_ret
        exact ⟨by first | rfl | (simp [errW_none, errW_some] <;> rfl) | (simp [*, errW_none, errW_some] <;> rfl), by repeat (first | (with_reducible first | exact HB.out | apply below_alloc | apply pw_below_drewN | apply below_drew1 | refine below_set ?_ GE118.out | refine below_set ?_ GE119.out | refine below_set ?_ GE120.out) | exact HB.out)⟩
      · rw [if_neg c23] at H
        have c23b0 : decide (a0_3 < a1_1) = false := decide_eq_false c23
        clear c23
        by_cases c33 : a1_2 > a0_4
        · rw [if_pos c33] at H
          have c33b0 : decide (a0_4 < a1_2) = true := decide_eq_true c33
          clear c33
          obtain rfl := Option.some.inj H
          go_enter Tryd.func14, Tryd.ntmps14
          go_wp2_with (first | ((with_reducible refine gate_dst (N := 3) rfl ?_); refine box_event ?hg (N := 3) ?hd (cs := #[.int .i64 a0_0, .int .i64 a0_1, .int .i64 a0_2, .int .i64 a0_3, .int .i64 a0_4]) (t := 23) ?hr ?_; (case hd => rfl); (case hg => rfl); (case hr => first | (go_simp; done) | (go_simp; rfl)); intro gb118 hg w34 hbox hb; have n0_ := Aside0.mk (below_step (by repeat (first | (with_reducible first | exact HB.out | apply below_alloc | apply pw_below_drewN | apply below_drew1) | exact HB.out)) hb); have n1_ := Aside0.mk (hbox); have n2_ := Aside0.mk ((by rw [hg]; exact (below_size (by repeat (first | (with_reducible first | exact HB.out | apply below_alloc | apply pw_below_drewN | apply below_drew1) | exact HB.out))) : w.heap.size ≤ gb118)); have n3_ := Aside0.mk ((by rw [hg]; exact (below_size (by repeat (first | (with_reducible first | exact HB.out | apply below_alloc | apply pw_below_drewN | apply below_drew1) | exact HB.out))) : w.heap.size ≤ gb118)); clear HB; have HB := n0_; have BK118 := n1_; have GW118 := n2_; have GE118 := n3_; clear n0_ n1_ n2_ n3_; clear hb hbox hg) | ((with_reducible refine gate_dst (N := 4) rfl ?_); refine box_event ?hg (N := 4) ?hd (cs := #[.int .i64 a1_0, .int .i64 a1_1, .int .i64 a1_2]) (t := 25) ?hr ?_; (case hd => rfl); (case hg => rfl); (case hr => first | (go_simp; done) | (go_simp; rfl)); intro gb119 hg w35 hbox hb; have n0_ := Aside0.mk (blk_below (g := gb118) (o := .cells #[.int .i64 a0_0, .int .i64 a0_1, .int .i64 a0_2, .int .i64 a0_3, .int .i64 a0_4] 23 (0, 0)) (by (with_reducible repeat (first | refine blk_drewN ?_ _ | refine blk_drew ?_ | refine blk_alloc ?_ _)); exact BK118.out) hb); have n1_ := Aside0.mk (below_step (by repeat (first | (with_reducible first | exact HB.out | apply below_alloc | apply pw_below_drewN | apply below_drew1 | refine below_set ?_ GE118.out) | exact HB.out)) hb); have n2_ := Aside0.mk (hbox); have n3_ := Aside0.mk ((by rw [hg]; exact (below_size (by repeat (first | (with_reducible first | exact HB.out | apply below_alloc | apply pw_below_drewN | apply below_drew1 | refine below_set ?_ GE118.out) | exact HB.out))) : w.heap.size ≤ gb119)); have n4_ := Aside0.mk ((by rw [hg]; exact (below_size (by repeat (first | (with_reducible first | exact HB.out | apply below_alloc | apply pw_below_drewN | apply below_drew1 | refine below_set ?_ GE118.out) | exact HB.out))) : w.heap.size ≤ gb119)); have n5_ := Aside0.mk ((by rw [hg]; exact Nat.ne_of_lt (blk_lt (g := gb118) (o := .cells #[.int .i64 a0_0, .int .i64 a0_1, .int .i64 a0_2, .int .i64 a0_3, .int .i64 a0_4] 23 (0, 0)) (by (with_reducible repeat (first | refine blk_drewN ?_ _ | refine blk_drew ?_ | refine blk_alloc ?_ _)); exact BK118.out)) : gb118 ≠ gb119)); have n6_ := Aside0.mk ((by rw [hg]; exact Nat.ne_of_gt (blk_lt (g := gb118) (o := .cells #[.int .i64 a0_0, .int .i64 a0_1, .int .i64 a0_2, .int .i64 a0_3, .int .i64 a0_4] 23 (0, 0)) (by (with_reducible repeat (first | refine blk_drewN ?_ _ | refine blk_drew ?_ | refine blk_alloc ?_ _)); exact BK118.out)) : gb119 ≠ gb118)); clear BK118; clear HB; have BK118 := n0_; have HB := n1_; have BK119 := n2_; have GW119 := n3_; have GE119 := n4_; have NB118_119 := n5_; have NB119_118 := n6_; clear n0_ n1_ n2_ n3_ n4_ n5_ n6_; clear hb hbox hg) | ((with_reducible refine gate_dst (N := 5) rfl ?_); refine box_event ?hg (N := 5) ?hd (cs := #[.int .i64 a2_0, .string a2_1, .slice A2_2 l2_2.length c2_2, .string a2_3, .int .i64 a2_4, .int .i64 a2_5]) (t := 28) ?hr ?_; (case hd => rfl); (case hg => rfl); (case hr => first | (go_simp; done) | (go_simp; rfl)); intro gb120 hg w36 hbox hb; have n0_ := Aside0.mk (blk_below (g := gb118) (o := .cells #[.int .i64 a0_0, .int .i64 a0_1, .int .i64 a0_2, .int .i64 a0_3, .int .i64 a0_4] 23 (0, 0)) (by (with_reducible repeat (first | refine blk_drewN ?_ _ | refine blk_drew ?_ | refine blk_alloc ?_ _)); exact BK118.out) hb); have n1_ := Aside0.mk (blk_below (g := gb119) (o := .cells #[.int .i64 a1_0, .int .i64 a1_1, .int .i64 a1_2] 25 (0, 0)) (by (with_reducible repeat (first | refine blk_drewN ?_ _ | refine blk_drew ?_ | refine blk_alloc ?_ _)); exact BK119.out) hb); have n2_ := Aside0.mk (below_step (by repeat (first | (with_reducible first | exact HB.out | apply below_alloc | apply pw_below_drewN | apply below_drew1 | refine below_set ?_ GE118.out | refine below_set ?_ GE119.out) | exact HB.out)) hb); have n3_ := Aside0.mk (hbox); have n4_ := Aside0.mk ((by rw [hg]; exact (below_size (by repeat (first | (with_reducible first | exact HB.out | apply below_alloc | apply pw_below_drewN | apply below_drew1 | refine below_set ?_ GE118.out | refine below_set ?_ GE119.out) | exact HB.out))) : w.heap.size ≤ gb120)); have n5_ := Aside0.mk ((by rw [hg]; exact (below_size (by repeat (first | (with_reducible first | exact HB.out | apply below_alloc | apply pw_below_drewN | apply below_drew1 | refine below_set ?_ GE118.out | refine below_set ?_ GE119.out) | exact HB.out))) : w.heap.size ≤ gb120)); have n6_ := Aside0.mk ((by rw [hg]; exact Nat.ne_of_lt (blk_lt (g := gb118) (o := .cells #[.int .i64 a0_0, .int .i64 a0_1, .int .i64 a0_2, .int .i64 a0_3, .int .i64 a0_4] 23 (0, 0)) (by (with_reducible repeat (first | refine blk_drewN ?_ _ | refine blk_drew ?_ | refine blk_alloc ?_ _)); exact BK118.out)) : gb118 ≠ gb120)); have n7_ := Aside0.mk ((by rw [hg]; exact Nat.ne_of_gt (blk_lt (g := gb118) (o := .cells #[.int .i64 a0_0, .int .i64 a0_1, .int .i64 a0_2, .int .i64 a0_3, .int .i64 a0_4] 23 (0, 0)) (by (with_reducible repeat (first | refine blk_drewN ?_ _ | refine blk_drew ?_ | refine blk_alloc ?_ _)); exact BK118.out)) : gb120 ≠ gb118)); have n8_ := Aside0.mk ((by rw [hg]; exact Nat.ne_of_lt (blk_lt (g := gb119) (o := .cells #[.int .i64 a1_0, .int .i64 a1_1, .int .i64 a1_2] 25 (0, 0)) (by (with_reducible repeat (first | refine blk_drewN ?_ _ | refine blk_drew ?_ | refine blk_alloc ?_ _)); exact BK119.out)) : gb119 ≠ gb120)); have n9_ := Aside0.mk ((by rw [hg]; exact Nat.ne_of_gt (blk_lt (g := gb119) (o := .cells #[.int .i64 a1_0, .int .i64 a1_1, .int .i64 a1_2] 25 (0, 0)) (by (with_reducible repeat (first | refine blk_drewN ?_ _ | refine blk_drew ?_ | refine blk_alloc ?_ _)); exact BK119.out)) : gb120 ≠ gb119)); clear BK118; clear BK119; clear HB; have BK118 := n0_; have BK119 := n1_; have HB := n2_; have BK120 := n3_; have GW120 := n4_; have GE120 := n5_; have NB118_120 := n6_; have NB120_118 := n7_; have NB119_120 := n8_; have NB120_119 := n9_; clear n0_ n1_ n2_ n3_ n4_ n5_ n6_ n7_ n8_ n9_; clear hb hbox hg; have hnb37 := NB120_118.out; have hnc37 := NB118_120.out; have hnb38 := NB120_119.out; have hnc38 := NB119_120.out; have hcz39_0 : w36.cell? ⟨gb120, 0, none⟩ = some (.int .i64 a2_0) := (blk_cell BK120.out 0).trans rfl; have hcz39_1 : w36.cell? ⟨gb120, 1, none⟩ = some (.string a2_1) := (blk_cell BK120.out 1).trans rfl; have hcz39_2 : w36.cell? ⟨gb120, 2, none⟩ = some (.slice A2_2 l2_2.length c2_2) := (blk_cell BK120.out 2).trans rfl; have hcz39_3 : w36.cell? ⟨gb120, 3, none⟩ = some (.string a2_3) := (blk_cell BK120.out 3).trans rfl; have hcz39_4 : w36.cell? ⟨gb120, 4, none⟩ = some (.int .i64 a2_4) := (blk_cell BK120.out 4).trans rfl; have hcz39_5 : w36.cell? ⟨gb120, 5, none⟩ = some (.int .i64 a2_5) := (blk_cell BK120.out 5).trans rfl; have hfz39_0 := blk_frozen BK120.out 0; have hfz39_1 := blk_frozen BK120.out 1; have hfz39_2 := blk_frozen BK120.out 2; have hfz39_3 := blk_frozen BK120.out 3; have hfz39_4 := blk_frozen BK120.out 4; have hfz39_5 := blk_frozen BK120.out 5; have hnb40 := NB118_119.out; have hnc40 := NB119_118.out; have hcz41_0 : w36.cell? ⟨gb118, 0, none⟩ = some (.int .i64 a0_0) := (blk_cell BK118.out 0).trans rfl; have hcz41_1 : w36.cell? ⟨gb118, 1, none⟩ = some (.int .i64 a0_1) := (blk_cell BK118.out 1).trans rfl; have hcz41_2 : w36.cell? ⟨gb118, 2, none⟩ = some (.int .i64 a0_2) := (blk_cell BK118.out 2).trans rfl; have hcz41_3 : w36.cell? ⟨gb118, 3, none⟩ = some (.int .i64 a0_3) := (blk_cell BK118.out 3).trans rfl; have hcz41_4 : w36.cell? ⟨gb118, 4, none⟩ = some (.int .i64 a0_4) := (blk_cell BK118.out 4).trans rfl; have hfz41_0 := blk_frozen BK118.out 0; have hfz41_1 := blk_frozen BK118.out 1; have hfz41_2 := blk_frozen BK118.out 2; have hfz41_3 := blk_frozen BK118.out 3; have hfz41_4 := blk_frozen BK118.out 4; have hcz42_0 : w36.cell? ⟨gb119, 0, none⟩ = some (.int .i64 a1_0) := (blk_cell BK119.out 0).trans rfl; have hcz42_1 : w36.cell? ⟨gb119, 1, none⟩ = some (.int .i64 a1_1) := (blk_cell BK119.out 1).trans rfl; have hcz42_2 : w36.cell? ⟨gb119, 2, none⟩ = some (.int .i64 a1_2) := (blk_cell BK119.out 2).trans rfl; have hfz42_0 := blk_frozen BK119.out 0; have hfz42_1 := blk_frozen BK119.out 1; have hfz42_2 := blk_frozen BK119.out 2))
          go_ret
          exact ⟨by first | rfl | (simp [errW_none, errW_some] <;> rfl) | (simp [*, errW_none, errW_some] <;> rfl), by repeat (first | (with_reducible first | exact HB.out | apply below_alloc | apply pw_below_drewN | apply below_drew1 | refine below_set ?_ GE118.out | refine below_set ?_ GE119.out | refine below_set ?_ GE120.out) | exact HB.out)⟩
        · rw [if_neg c33] at H
          have c33b0 : decide (a0_4 < a1_2) = false := decide_eq_false c33
          clear c33
          obtain rfl := Option.some.inj H
          go_enter Tryd.func14, Tryd.ntmps14
          go_wp2_with (first | ((with_reducible refine gate_dst (N := 3) rfl ?_); refine box_event ?hg (N := 3) ?hd (cs := #[.int .i64 a0_0, .int .i64 a0_1, .int .i64 a0_2, .int .i64 a0_3, .int .i64 a0_4]) (t := 23) ?hr ?_; (case hd => rfl); (case hg => rfl); (case hr => first | (go_simp; done) | (go_simp; rfl)); intro gb118 hg w43 hbox hb; have n0_ := Aside0.mk (below_step (by repeat (first | (with_reducible first | exact HB.out | apply below_alloc | apply pw_below_drewN | apply below_drew1) | exact HB.out)) hb); have n1_ := Aside0.mk (hbox); have n2_ := Aside0.mk ((by rw [hg]; exact (below_size (by repeat (first | (with_reducible first | exact HB.out | apply below_alloc | apply pw_below_drewN | apply below_drew1) | exact HB.out))) : w.heap.size ≤ gb118)); have n3_ := Aside0.mk ((by rw [hg]; exact (below_size (by repeat (first | (with_reducible first | exact HB.out | apply below_alloc | apply pw_below_drewN | apply below_drew1) | exact HB.out))) : w.heap.size ≤ gb118)); clear HB; have HB := n0_; have BK118 := n1_; have GW118 := n2_; have GE118 := n3_; clear n0_ n1_ n2_ n3_; clear hb hbox hg) | ((with_reducible refine gate_dst (N := 4) rfl ?_); refine box_event ?hg (N := 4) ?hd (cs := #[.int .i64 a1_0, .int .i64 a1_1, .int .i64 a1_2]) (t := 25) ?hr ?_; (case hd => rfl); (case hg => rfl); (case hr => first | (go_simp; done) | (go_simp; rfl)); intro gb119 hg w44 hbox hb; have n0_ := Aside0.mk (blk_below (g := gb118) (o := .cells #[.int .i64 a0_0, .int .i64 a0_1, .int .i64 a0_2, .int .i64 a0_3, .int .i64 a0_4] 23 (0, 0)) (by (with_reducible repeat (first | refine blk_drewN ?_ _ | refine blk_drew ?_ | refine blk_alloc ?_ _)); exact BK118.out) hb); have n1_ := Aside0.mk (below_step (by repeat (first | (with_reducible first | exact HB.out | apply below_alloc | apply pw_below_drewN | apply below_drew1 | refine below_set ?_ GE118.out) | exact HB.out)) hb); have n2_ := Aside0.mk (hbox); have n3_ := Aside0.mk ((by rw [hg]; exact (below_size (by repeat (first | (with_reducible first | exact HB.out | apply below_alloc | apply pw_below_drewN | apply below_drew1 | refine below_set ?_ GE118.out) | exact HB.out))) : w.heap.size ≤ gb119)); have n4_ := Aside0.mk ((by rw [hg]; exact (below_size (by repeat (first | (with_reducible first | exact HB.out | apply below_alloc | apply pw_below_drewN | apply below_drew1 | refine below_set ?_ GE118.out) | exact HB.out))) : w.heap.size ≤ gb119)); have n5_ := Aside0.mk ((by rw [hg]; exact Nat.ne_of_lt (blk_lt (g := gb118) (o := .cells #[.int .i64 a0_0, .int .i64 a0_1, .int .i64 a0_2, .int .i64 a0_3, .int .i64 a0_4] 23 (0, 0)) (by (with_reducible repeat (first | refine blk_drewN ?_ _ | refine blk_drew ?_ | refine blk_alloc ?_ _)); exact BK118.out)) : gb118 ≠ gb119)); have n6_ := Aside0.mk ((by rw [hg]; exact Nat.ne_of_gt (blk_lt (g := gb118) (o := .cells #[.int .i64 a0_0, .int .i64 a0_1, .int .i64 a0_2, .int .i64 a0_3, .int .i64 a0_4] 23 (0, 0)) (by (with_reducible repeat (first | refine blk_drewN ?_ _ | refine blk_drew ?_ | refine blk_alloc ?_ _)); exact BK118.out)) : gb119 ≠ gb118)); clear BK118; clear HB; have BK118 := n0_; have HB := n1_; have BK119 := n2_; have GW119 := n3_; have GE119 := n4_; have NB118_119 := n5_; have NB119_118 := n6_; clear n0_ n1_ n2_ n3_ n4_ n5_ n6_; clear hb hbox hg) | ((with_reducible refine gate_dst (N := 5) rfl ?_); refine box_event ?hg (N := 5) ?hd (cs := #[.int .i64 a2_0, .string a2_1, .slice A2_2 l2_2.length c2_2, .string a2_3, .int .i64 a2_4, .int .i64 a2_5]) (t := 28) ?hr ?_; (case hd => rfl); (case hg => rfl); (case hr => first | (go_simp; done) | (go_simp; rfl)); intro gb120 hg w45 hbox hb; have n0_ := Aside0.mk (blk_below (g := gb118) (o := .cells #[.int .i64 a0_0, .int .i64 a0_1, .int .i64 a0_2, .int .i64 a0_3, .int .i64 a0_4] 23 (0, 0)) (by (with_reducible repeat (first | refine blk_drewN ?_ _ | refine blk_drew ?_ | refine blk_alloc ?_ _)); exact BK118.out) hb); have n1_ := Aside0.mk (blk_below (g := gb119) (o := .cells #[.int .i64 a1_0, .int .i64 a1_1, .int .i64 a1_2] 25 (0, 0)) (by (with_reducible repeat (first | refine blk_drewN ?_ _ | refine blk_drew ?_ | refine blk_alloc ?_ _)); exact BK119.out) hb); have n2_ := Aside0.mk (below_step (by repeat (first | (with_reducible first | exact HB.out | apply below_alloc | apply pw_below_drewN | apply below_drew1 | refine below_set ?_ GE118.out | refine below_set ?_ GE119.out) | exact HB.out)) hb); have n3_ := Aside0.mk (hbox); have n4_ := Aside0.mk ((by rw [hg]; exact (below_size (by repeat (first | (with_reducible first | exact HB.out | apply below_alloc | apply pw_below_drewN | apply below_drew1 | refine below_set ?_ GE118.out | refine below_set ?_ GE119.out) | exact HB.out))) : w.heap.size ≤ gb120)); have n5_ := Aside0.mk ((by rw [hg]; exact (below_size (by repeat (first | (with_reducible first | exact HB.out | apply below_alloc | apply pw_below_drewN | apply below_drew1 | refine below_set ?_ GE118.out | refine below_set ?_ GE119.out) | exact HB.out))) : w.heap.size ≤ gb120)); have n6_ := Aside0.mk ((by rw [hg]; exact Nat.ne_of_lt (blk_lt (g := gb118) (o := .cells #[.int .i64 a0_0, .int .i64 a0_1, .int .i64 a0_2, .int .i64 a0_3, .int .i64 a0_4] 23 (0, 0)) (by (with_reducible repeat (first | refine blk_drewN ?_ _ | refine blk_drew ?_ | refine blk_alloc ?_ _)); exact BK118.out)) : gb118 ≠ gb120)); have n7_ := Aside0.mk ((by rw [hg]; exact Nat.ne_of_gt (blk_lt (g := gb118) (o := .cells #[.int .i64 a0_0, .int .i64 a0_1, .int .i64 a0_2, .int .i64 a0_3, .int .i64 a0_4] 23 (0, 0)) (by (with_reducible repeat (first | refine blk_drewN ?_ _ | refine blk_drew ?_ | refine blk_alloc ?_ _)); exact BK118.out)) : gb120 ≠ gb118)); have n8_ := Aside0.mk ((by rw [hg]; exact Nat.ne_of_lt (blk_lt (g := gb119) (o := .cells #[.int .i64 a1_0, .int .i64 a1_1, .int .i64 a1_2] 25 (0, 0)) (by (with_reducible repeat (first | refine blk_drewN ?_ _ | refine blk_drew ?_ | refine blk_alloc ?_ _)); exact BK119.out)) : gb119 ≠ gb120)); have n9_ := Aside0.mk ((by rw [hg]; exact Nat.ne_of_gt (blk_lt (g := gb119) (o := .cells #[.int .i64 a1_0, .int .i64 a1_1, .int .i64 a1_2] 25 (0, 0)) (by (with_reducible repeat (first | refine blk_drewN ?_ _ | refine blk_drew ?_ | refine blk_alloc ?_ _)); exact BK119.out)) : gb120 ≠ gb119)); clear BK118; clear BK119; clear HB; have BK118 := n0_; have BK119 := n1_; have HB := n2_; have BK120 := n3_; have GW120 := n4_; have GE120 := n5_; have NB118_120 := n6_; have NB120_118 := n7_; have NB119_120 := n8_; have NB120_119 := n9_; clear n0_ n1_ n2_ n3_ n4_ n5_ n6_ n7_ n8_ n9_; clear hb hbox hg; have hnb46 := NB120_118.out; have hnc46 := NB118_120.out; have hnb47 := NB120_119.out; have hnc47 := NB119_120.out; have hcz48_0 : w45.cell? ⟨gb120, 0, none⟩ = some (.int .i64 a2_0) := (blk_cell BK120.out 0).trans rfl; have hcz48_1 : w45.cell? ⟨gb120, 1, none⟩ = some (.string a2_1) := (blk_cell BK120.out 1).trans rfl; have hcz48_2 : w45.cell? ⟨gb120, 2, none⟩ = some (.slice A2_2 l2_2.length c2_2) := (blk_cell BK120.out 2).trans rfl; have hcz48_3 : w45.cell? ⟨gb120, 3, none⟩ = some (.string a2_3) := (blk_cell BK120.out 3).trans rfl; have hcz48_4 : w45.cell? ⟨gb120, 4, none⟩ = some (.int .i64 a2_4) := (blk_cell BK120.out 4).trans rfl; have hcz48_5 : w45.cell? ⟨gb120, 5, none⟩ = some (.int .i64 a2_5) := (blk_cell BK120.out 5).trans rfl; have hfz48_0 := blk_frozen BK120.out 0; have hfz48_1 := blk_frozen BK120.out 1; have hfz48_2 := blk_frozen BK120.out 2; have hfz48_3 := blk_frozen BK120.out 3; have hfz48_4 := blk_frozen BK120.out 4; have hfz48_5 := blk_frozen BK120.out 5; have hnb49 := NB118_119.out; have hnc49 := NB119_118.out; have hcz50_0 : w45.cell? ⟨gb118, 0, none⟩ = some (.int .i64 a0_0) := (blk_cell BK118.out 0).trans rfl; have hcz50_1 : w45.cell? ⟨gb118, 1, none⟩ = some (.int .i64 a0_1) := (blk_cell BK118.out 1).trans rfl; have hcz50_2 : w45.cell? ⟨gb118, 2, none⟩ = some (.int .i64 a0_2) := (blk_cell BK118.out 2).trans rfl; have hcz50_3 : w45.cell? ⟨gb118, 3, none⟩ = some (.int .i64 a0_3) := (blk_cell BK118.out 3).trans rfl; have hcz50_4 : w45.cell? ⟨gb118, 4, none⟩ = some (.int .i64 a0_4) := (blk_cell BK118.out 4).trans rfl; have hfz50_0 := blk_frozen BK118.out 0; have hfz50_1 := blk_frozen BK118.out 1; have hfz50_2 := blk_frozen BK118.out 2; have hfz50_3 := blk_frozen BK118.out 3; have hfz50_4 := blk_frozen BK118.out 4; have hcz51_0 : w45.cell? ⟨gb119, 0, none⟩ = some (.int .i64 a1_0) := (blk_cell BK119.out 0).trans rfl; have hcz51_1 : w45.cell? ⟨gb119, 1, none⟩ = some (.int .i64 a1_1) := (blk_cell BK119.out 1).trans rfl; have hcz51_2 : w45.cell? ⟨gb119, 2, none⟩ = some (.int .i64 a1_2) := (blk_cell BK119.out 2).trans rfl; have hfz51_0 := blk_frozen BK119.out 0; have hfz51_1 := blk_frozen BK119.out 1; have hfz51_2 := blk_frozen BK119.out 2))
          go_ret
          exact ⟨by first | rfl | (simp [errW_none, errW_some] <;> rfl) | (simp [*, errW_none, errW_some] <;> rfl), by repeat (first | (with_reducible first | exact HB.out | apply below_alloc | apply pw_below_drewN | apply below_drew1 | refine below_set ?_ GE118.out | refine below_set ?_ GE119.out | refine below_set ?_ GE120.out) | exact HB.out)⟩

end Go.Proofs.YtfkgklbaafbbiaaDoor.PCaps
