-- Laid by a program of this session (tools/patch_print.py) out of the translation. Not trusted: Lean checks it.
import Derived.Test.YtinjbabmpnljoaaDoorPClassTx0
import Derived.Test.YtinjbabmpnljoaaDoorPClassTx1
import Derived.Test.YtinjbabmpnljoaaDoorPClassTx2
namespace Go.Proofs.YtinjbabmpnljoaaDoor.PClassT
open Go.RowKit Go.Proofs.YtinjbabmpnljoaaDoorW.PrintWords Go.Proofs.YtinjbabmpnljoaaDoorW.PrintLast Go.Proofs.YtinjbabmpnljoaaDoorW.PrintMore
attribute [local go_sem] max2_int min2_int max_two min_two max_three min_three max_four min_four   -- for this text's walks alone
set_option linter.unusedVariables false
set_option linter.unusedSimpArgs false

/-! ### decanterlaw03_ClassTexts: function 9 -/
def decanterlaw03_ClassTexts.j0 : Nat → ByteArray → Bool → Option (Bool)
  | 0, _, _ => none
  | k + 1, x0, x9 => if x9 = true then ((decanterlaw03_speaks.f).bind fun t115 => (some t115)) else ((class_Small.f x0).bind fun t116 => ((decanterref03_Small.f k x0).bind fun t117 => (if t116.toList = t117.toList then ((class_Trim.f x0).bind fun t118 => ((decanterref03_Trim.f k x0).bind fun t119 => (if t118.toList = t119.toList then ((class_Name.f x0).bind fun t120 => ((decanterref03_Name.f k x0).bind fun t121 => (some (t120 == t121)))) else (some false)))) else (some false))))
def decanterlaw03_ClassTexts.f (k : Nat) (a0 : ByteArray) : Option (Bool) := (decanterlaw03_speaks.f).bind fun t114 => (if t114 = true then (decanterlaw03_ClassTexts.j0 k a0 (decide ((a0.size : Int) > 300))) else (decanterlaw03_ClassTexts.j0 k a0 true))
theorem decanterlaw03_ClassTexts.mono_l : ∀ k, (∀ y0 y1, LeO (decanterlaw03_ClassTexts.j0 k y0 y1) (decanterlaw03_ClassTexts.j0 (k + 1) y0 y1))
  | 0 => fun _ _ r h => by simp [decanterlaw03_ClassTexts.j0] at h
  | k + 1 => by
    have ih0 := decanterlaw03_ClassTexts.mono_l k
    · intro y0 y1
      unfold decanterlaw03_ClassTexts.j0
      repeat' first
      | (with_reducible exact ih0 _ _)
      | (with_reducible exact decanterref03_Name.mono _ _)
      | (with_reducible exact decanterref03_Small.mono _ _)
      | (with_reducible exact decanterref03_Trim.mono _ _)
      | (with_reducible exact LeO.refl _)
      | (with_reducible exact LeO.none _)
      | (with_reducible refine LeO.ite ?_ ?_)
      | (with_reducible refine LeO.bind ?_ (fun _ => ?_))
      | exact ih0 _ _
      | exact decanterref03_Name.mono _ _
      | exact decanterref03_Small.mono _ _
      | exact decanterref03_Trim.mono _ _
      | exact LeO.none _
      | refine LeO.ite ?_ ?_
      | refine LeO.bind ?_ (fun _ => ?_)
theorem decanterlaw03_ClassTexts.mono : ∀ a0 k, LeO (decanterlaw03_ClassTexts.f k a0) (decanterlaw03_ClassTexts.f (k + 1) a0) := by
  intro a0 k
  have ih0 := decanterlaw03_ClassTexts.mono_l k
  unfold decanterlaw03_ClassTexts.f
  repeat' first
      | (with_reducible exact ih0 _ _)
      | (with_reducible exact decanterref03_Name.mono _ _)
      | (with_reducible exact decanterref03_Small.mono _ _)
      | (with_reducible exact decanterref03_Trim.mono _ _)
      | (with_reducible exact LeO.refl _)
      | (with_reducible exact LeO.none _)
      | (with_reducible refine LeO.ite ?_ ?_)
      | (with_reducible refine LeO.bind ?_ (fun _ => ?_))
      | exact ih0 _ _
      | exact decanterref03_Name.mono _ _
      | exact decanterref03_Small.mono _ _
      | exact decanterref03_Trim.mono _ _
      | exact LeO.none _
      | refine LeO.ite ?_ ?_
      | refine LeO.bind ?_ (fun _ => ?_)
set_option maxHeartbeats 8000000 in
set_option maxRecDepth 100000 in
theorem decanterlaw03_ClassTexts.calls (k : Nat) (a0 : ByteArray) (r : Bool) (w : World) (h : decanterlaw03_ClassTexts.f k a0 = some r) :
    Calls Tryd.prog 9 #[.string a0] w fun e w' => e = .returned (.bool r) ∧ Below w.heap.size w w' := by
  have HB := Aside0.mk (Below.refl w.heap.size w)
  have H : ((decanterlaw03_speaks.f).bind fun t114 => (if t114 = true then (decanterlaw03_ClassTexts.j0 k a0 (decide ((a0.size : Int) > 300))) else (decanterlaw03_ClassTexts.j0 k a0 true))) = some r := h
  clear h
  have HC2 := Aside0.mk H
  clear H
  go_enter Tryd.func9, Tryd.ntmps9
  go_upto_region 1 with (fail)
  go_cut [9] (fun v9 wc => ∃ (kq : Nat) (x9_1 : Bool), v9 = .bool x9_1 ∧ Aside0 (decanterlaw03_ClassTexts.j0 kq a0 x9_1 = some r) ∧ Aside0 (kq ≤ k) ∧ Aside0 (Below w.heap.size w wc))
  case first =>
    have H := HC2.out
    clear HC2
    replace H := Option.bind_eq_some_iff.mp H
    obtain ⟨t114, A30, H⟩ := H
    replace H : (if t114 = true then (decanterlaw03_ClassTexts.j0 k a0 (decide ((a0.size : Int) > 300))) else (decanterlaw03_ClassTexts.j0 k a0 true)) = some r := H
    have A3 := Aside0.mk A30
    clear A30
    by_cases c4 : t114 = true
    · subst c4
      have H1 : (decanterlaw03_ClassTexts.j0 k a0 (decide ((a0.size : Int) > 300))) = some r := by rw [if_pos rfl] at H; exact H
      clear H
      have H := H1
      clear H1
      have H' := Aside0.mk H
      clear H
      go_wp2_with (first | ((with_reducible refine gate_callee (f := 21) rfl ?_); refine goesL_ (some 3) rfl rfl Tryd.func21 (by kernel_rfl) rfl #[] rfl (by (try simp only [List.map_toArray, List.map_cons, List.map_nil]); first | done | rfl | (simp only [List.length_drop, List.length_take]; rfl)) ?_; (with_reducible refine (decanterlaw03_speaks.calls  true _ A3.out).mono ?_); rintro e w5 ⟨rfl, hb⟩; refine ⟨_, rfl, ?_⟩; have n0_ := Aside0.mk (below_step (by repeat (first | (with_reducible first | exact HB.out | apply below_alloc | apply pw_below_drewN | apply below_drew1) | exact HB.out)) hb); clear HB; have HB := n0_; clear n0_; (try clear hb); (try clear hb2); (try clear hk); (try clear hi)))
      go_meet
      case rel => exact ⟨_, (decide ((a0.size : Int) > 300)), (by first | rfl | (simp; done) | (simp [*]; done)), H', ⟨by first | omega | exact Nat.le_refl _⟩, ⟨by repeat (first | (with_reducible first | exact HB.out | apply below_alloc | apply pw_below_drewN | apply below_drew1) | exact HB.out)⟩⟩
    · replace c4 := Bool.eq_false_iff.mpr c4
      subst c4
      have H1 : (decanterlaw03_ClassTexts.j0 k a0 true) = some r := by rw [if_neg (show ¬ (false = true) by decide)] at H; exact H
      clear H
      have H := H1
      clear H1
      have H' := Aside0.mk H
      clear H
      go_wp2_with (first | ((with_reducible refine gate_callee (f := 21) rfl ?_); refine goesL_ (some 3) rfl rfl Tryd.func21 (by kernel_rfl) rfl #[] rfl (by (try simp only [List.map_toArray, List.map_cons, List.map_nil]); first | done | rfl | (simp only [List.length_drop, List.length_take]; rfl)) ?_; (with_reducible refine (decanterlaw03_speaks.calls  false _ A3.out).mono ?_); rintro e w6 ⟨rfl, hb⟩; refine ⟨_, rfl, ?_⟩; have n0_ := Aside0.mk (below_step (by repeat (first | (with_reducible first | exact HB.out | apply below_alloc | apply pw_below_drewN | apply below_drew1) | exact HB.out)) hb); clear HB; have HB := n0_; clear n0_; (try clear hb); (try clear hb2); (try clear hk); (try clear hi)))
      go_meet
      case rel => exact ⟨_, (true), (by first | rfl | (simp; done) | (simp [*]; done)), H', ⟨by first | omega | exact Nat.le_refl _⟩, ⟨by repeat (first | (with_reducible first | exact HB.out | apply below_alloc | apply pw_below_drewN | apply below_drew1) | exact HB.out)⟩⟩
  case rest =>
    clear HC2
    try clear c2
    try clear p2
    try clear c4
    obtain ⟨kq, x9_1, rfl, HA, HJ1, HB⟩ := hcut
    cases kq with
    | zero => exact absurd HA.out (by simp [decanterlaw03_ClassTexts.j0])
    | succ kj1 =>
      have H := HA.out
      clear HA
      simp only [decanterlaw03_ClassTexts.j0] at H
      by_cases c7 : x9_1 = true
      · subst c7
        have H1 : ((decanterlaw03_speaks.f).bind fun t115 => (some t115)) = some r := by rw [if_pos rfl] at H; exact H
        clear H
        have H := H1
        clear H1
        replace H := Option.bind_eq_some_iff.mp H
        obtain ⟨t115, A80, H⟩ := H
        replace H : (some t115) = some r := H
        have A8 := Aside0.mk A80
        clear A80
        obtain rfl := Option.some.inj H
        go_wp2_with (first | ((with_reducible refine gate_callee (f := 21) rfl ?_); refine goesL_ (some 10) rfl rfl Tryd.func21 (by kernel_rfl) rfl #[] rfl (by (try simp only [List.map_toArray, List.map_cons, List.map_nil]); first | done | rfl | (simp only [List.length_drop, List.length_take]; rfl)) ?_; (with_reducible refine (decanterlaw03_speaks.calls  t115 _ A8.out).mono ?_); rintro e w9 ⟨rfl, hb⟩; refine ⟨_, rfl, ?_⟩; have n0_ := Aside0.mk (below_step (by repeat (first | (with_reducible first | exact HB.out | apply below_alloc | apply pw_below_drewN | apply below_drew1) | exact HB.out)) hb); clear HB; have HB := n0_; clear n0_; (try clear hb); (try clear hb2); (try clear hk); (try clear hi)))
        go_ret
        exact ⟨by first | rfl | (simp [errW_none, errW_some] <;> rfl) | (simp [*, errW_none, errW_some] <;> rfl), by repeat (first | (with_reducible first | exact HB.out | apply below_alloc | apply pw_below_drewN | apply below_drew1) | exact HB.out)⟩
      · replace c7 := Bool.eq_false_iff.mpr c7
        subst c7
        have H1 : ((class_Small.f a0).bind fun t116 => ((decanterref03_Small.f kj1 a0).bind fun t117 => (if t116.toList = t117.toList then ((class_Trim.f a0).bind fun t118 => ((decanterref03_Trim.f kj1 a0).bind fun t119 => (if t118.toList = t119.toList then ((class_Name.f a0).bind fun t120 => ((decanterref03_Name.f kj1 a0).bind fun t121 => (some (t120 == t121)))) else (some false)))) else (some false)))) = some r := by rw [if_neg (show ¬ (false = true) by decide)] at H; exact H
        clear H
        have H := H1
        clear H1
        replace H := Option.bind_eq_some_iff.mp H
        obtain ⟨t116, A100, H⟩ := H
        replace H : ((decanterref03_Small.f kj1 a0).bind fun t117 => (if t116.toList = t117.toList then ((class_Trim.f a0).bind fun t118 => ((decanterref03_Trim.f kj1 a0).bind fun t119 => (if t118.toList = t119.toList then ((class_Name.f a0).bind fun t120 => ((decanterref03_Name.f kj1 a0).bind fun t121 => (some (t120 == t121)))) else (some false)))) else (some false))) = some r := H
        have A10 := Aside0.mk A100
        clear A100
        replace H := Option.bind_eq_some_iff.mp H
        obtain ⟨t117, A110, H⟩ := H
        replace H : (if t116.toList = t117.toList then ((class_Trim.f a0).bind fun t118 => ((decanterref03_Trim.f kj1 a0).bind fun t119 => (if t118.toList = t119.toList then ((class_Name.f a0).bind fun t120 => ((decanterref03_Name.f kj1 a0).bind fun t121 => (some (t120 == t121)))) else (some false)))) else (some false)) = some r := H
        have A11 := Aside0.mk A110
        clear A110
        by_cases c12 : t116.toList = t117.toList
        · rw [if_pos c12] at H
          have c12b0 : (t116.toList == t117.toList) = true := beq_iff_eq.mpr c12
          have c12b1 : (t116.toList != t117.toList) = false := bne_eq_false_iff_eq.mpr c12
          clear c12
          replace H := Option.bind_eq_some_iff.mp H
          obtain ⟨t118, A130, H⟩ := H
          replace H : ((decanterref03_Trim.f kj1 a0).bind fun t119 => (if t118.toList = t119.toList then ((class_Name.f a0).bind fun t120 => ((decanterref03_Name.f kj1 a0).bind fun t121 => (some (t120 == t121)))) else (some false))) = some r := H
          have A13 := Aside0.mk A130
          clear A130
          replace H := Option.bind_eq_some_iff.mp H
          obtain ⟨t119, A140, H⟩ := H
          replace H : (if t118.toList = t119.toList then ((class_Name.f a0).bind fun t120 => ((decanterref03_Name.f kj1 a0).bind fun t121 => (some (t120 == t121)))) else (some false)) = some r := H
          have A14 := Aside0.mk A140
          clear A140
          by_cases c15 : t118.toList = t119.toList
          · rw [if_pos c15] at H
            have c15b0 : (t118.toList == t119.toList) = true := beq_iff_eq.mpr c15
            have c15b1 : (t118.toList != t119.toList) = false := bne_eq_false_iff_eq.mpr c15
            clear c15
            replace H := Option.bind_eq_some_iff.mp H
            obtain ⟨t120, A160, H⟩ := H
            replace H : ((decanterref03_Name.f kj1 a0).bind fun t121 => (some (t120 == t121))) = some r := H
            have A16 := Aside0.mk A160
            clear A160
            replace H := Option.bind_eq_some_iff.mp H
            obtain ⟨t121, A170, H⟩ := H
            replace H : (some (t120 == t121)) = some r := H
            have A17 := Aside0.mk A170
            clear A170
            obtain rfl := Option.some.inj H
            go_wp2_with (first | ((with_reducible refine gate_callee (f := 22) rfl ?_); refine goesL_ (some 12) rfl rfl Tryd.func22 (by kernel_rfl) rfl #[.string a0] rfl (by (try simp only [List.map_toArray, List.map_cons, List.map_nil]); first | done | rfl | (simp only [List.length_drop, List.length_take]; rfl)) ?_; (with_reducible refine (class_Small.calls a0 t116 _ A10.out).mono ?_); rintro e w18 ⟨rfl, hb⟩; refine ⟨_, rfl, ?_⟩; have n0_ := Aside0.mk (below_step (by repeat (first | (with_reducible first | exact HB.out | apply below_alloc | apply pw_below_drewN | apply below_drew1) | exact HB.out)) hb); clear HB; have HB := n0_; clear n0_; (try clear hb); (try clear hb2); (try clear hk); (try clear hi)) | ((with_reducible refine gate_callee (f := 23) rfl ?_); refine goesL_ (some 14) rfl rfl Tryd.func23 (by kernel_rfl) rfl #[.string a0] rfl (by (try simp only [List.map_toArray, List.map_cons, List.map_nil]); first | done | rfl | (simp only [List.length_drop, List.length_take]; rfl)) ?_; (with_reducible refine (decanterref03_Small.calls kj1 a0 t117 _ A11.out).mono ?_); rintro e w19 ⟨rfl, hb⟩; refine ⟨_, rfl, ?_⟩; have n0_ := Aside0.mk (below_step (by repeat (first | (with_reducible first | exact HB.out | apply below_alloc | apply pw_below_drewN | apply below_drew1) | exact HB.out)) hb); clear HB; have HB := n0_; clear n0_; (try clear hb); (try clear hb2); (try clear hk); (try clear hi)) | (go_at_call 24; (with_reducible refine (class_Trim.calls a0 t118 _ A13.out).mono ?_); rintro e w20 ⟨rfl, hb⟩; have n0_ := Aside0.mk (below_step (by repeat (first | (with_reducible first | exact HB.out | apply below_alloc | apply pw_below_drewN | apply below_drew1) | exact HB.out)) hb); clear HB; have HB := n0_; clear n0_; (try clear hb); (try clear hb2); (try clear hk); (try clear hi)) | (go_at_call 25; (with_reducible refine (decanterref03_Trim.calls kj1 a0 t119 _ A14.out).mono ?_); rintro e w' ⟨rfl, ⟨nd, rfl⟩⟩) | (go_at_call 26; (with_reducible refine (class_Name.calls a0 t120 _ A16.out).mono ?_); rintro e w21 ⟨rfl, hb⟩; have n0_ := Aside0.mk (below_step (by repeat (first | (with_reducible first | exact HB.out | apply below_alloc | apply pw_below_drewN | apply below_drew1) | exact HB.out)) hb); clear HB; have HB := n0_; clear n0_; (try clear hb); (try clear hb2); (try clear hk); (try clear hi)) | (go_at_call 27; (with_reducible refine (decanterref03_Name.calls kj1 a0 t121 _ A17.out).mono ?_); rintro e w' ⟨rfl, ⟨nd, rfl⟩⟩))
            go_ret
            exact ⟨by first | rfl | (simp [errW_none, errW_some] <;> rfl) | (simp [*, errW_none, errW_some] <;> rfl), by repeat (first | (with_reducible first | exact HB.out | apply below_alloc | apply pw_below_drewN | apply below_drew1) | exact HB.out)⟩
          · rw [if_neg c15] at H
            have c15b0 : (t118.toList == t119.toList) = false := beq_eq_false_iff_ne.mpr c15
            have c15b1 : (t118.toList != t119.toList) = true := bne_iff_ne.mpr c15
            obtain rfl := Option.some.inj H
            go_wp2_with (first | ((with_reducible refine gate_callee (f := 22) rfl ?_); refine goesL_ (some 12) rfl rfl Tryd.func22 (by kernel_rfl) rfl #[.string a0] rfl (by (try simp only [List.map_toArray, List.map_cons, List.map_nil]); first | done | rfl | (simp only [List.length_drop, List.length_take]; rfl)) ?_; (with_reducible refine (class_Small.calls a0 t116 _ A10.out).mono ?_); rintro e w22 ⟨rfl, hb⟩; refine ⟨_, rfl, ?_⟩; have n0_ := Aside0.mk (below_step (by repeat (first | (with_reducible first | exact HB.out | apply below_alloc | apply pw_below_drewN | apply below_drew1) | exact HB.out)) hb); clear HB; have HB := n0_; clear n0_; (try clear hb); (try clear hb2); (try clear hk); (try clear hi)) | ((with_reducible refine gate_callee (f := 23) rfl ?_); refine goesL_ (some 14) rfl rfl Tryd.func23 (by kernel_rfl) rfl #[.string a0] rfl (by (try simp only [List.map_toArray, List.map_cons, List.map_nil]); first | done | rfl | (simp only [List.length_drop, List.length_take]; rfl)) ?_; (with_reducible refine (decanterref03_Small.calls kj1 a0 t117 _ A11.out).mono ?_); rintro e w23 ⟨rfl, hb⟩; refine ⟨_, rfl, ?_⟩; have n0_ := Aside0.mk (below_step (by repeat (first | (with_reducible first | exact HB.out | apply below_alloc | apply pw_below_drewN | apply below_drew1) | exact HB.out)) hb); clear HB; have HB := n0_; clear n0_; (try clear hb); (try clear hb2); (try clear hk); (try clear hi)) | (go_at_call 24; (with_reducible refine (class_Trim.calls a0 t118 _ A13.out).mono ?_); rintro e w24 ⟨rfl, hb⟩; have n0_ := Aside0.mk (below_step (by repeat (first | (with_reducible first | exact HB.out | apply below_alloc | apply pw_below_drewN | apply below_drew1) | exact HB.out)) hb); clear HB; have HB := n0_; clear n0_; (try clear hb); (try clear hb2); (try clear hk); (try clear hi)) | (go_at_call 25; (with_reducible refine (decanterref03_Trim.calls kj1 a0 t119 _ A14.out).mono ?_); rintro e w' ⟨rfl, ⟨nd, rfl⟩⟩))
            go_ret
            exact ⟨by first | rfl | (simp [errW_none, errW_some] <;> rfl) | (simp [*, errW_none, errW_some] <;> rfl), by repeat (first | (with_reducible first | exact HB.out | apply below_alloc | apply pw_below_drewN | apply below_drew1) | exact HB.out)⟩
        · rw [if_neg c12] at H
          have c12b0 : (t116.toList == t117.toList) = false := beq_eq_false_iff_ne.mpr c12
          have c12b1 : (t116.toList != t117.toList) = true := bne_iff_ne.mpr c12
          obtain rfl := Option.some.inj H
          go_wp2_with (first | ((with_reducible refine gate_callee (f := 22) rfl ?_); refine goesL_ (some 12) rfl rfl Tryd.func22 (by kernel_rfl) rfl #[.string a0] rfl (by (try simp only [List.map_toArray, List.map_cons, List.map_nil]); first | done | rfl | (simp only [List.length_drop, List.length_take]; rfl)) ?_; (with_reducible refine (class_Small.calls a0 t116 _ A10.out).mono ?_); rintro e w25 ⟨rfl, hb⟩; refine ⟨_, rfl, ?_⟩; have n0_ := Aside0.mk (below_step (by repeat (first | (with_reducible first | exact HB.out | apply below_alloc | apply pw_below_drewN | apply below_drew1) | exact HB.out)) hb); clear HB; have HB := n0_; clear n0_; (try clear hb); (try clear hb2); (try clear hk); (try clear hi)) | ((with_reducible refine gate_callee (f := 23) rfl ?_); refine goesL_ (some 14) rfl rfl Tryd.func23 (by kernel_rfl) rfl #[.string a0] rfl (by (try simp only [List.map_toArray, List.map_cons, List.map_nil]); first | done | rfl | (simp only [List.length_drop, List.length_take]; rfl)) ?_; (with_reducible refine (decanterref03_Small.calls kj1 a0 t117 _ A11.out).mono ?_); rintro e w26 ⟨rfl, hb⟩; refine ⟨_, rfl, ?_⟩; have n0_ := Aside0.mk (below_step (by repeat (first | (with_reducible first | exact HB.out | apply below_alloc | apply pw_below_drewN | apply below_drew1) | exact HB.out)) hb); clear HB; have HB := n0_; clear n0_; (try clear hb); (try clear hb2); (try clear hk); (try clear hi)))
          go_ret
          exact ⟨by first | rfl | (simp [errW_none, errW_some] <;> rfl) | (simp [*, errW_none, errW_some] <;> rfl), by repeat (first | (with_reducible first | exact HB.out | apply below_alloc | apply pw_below_drewN | apply below_drew1) | exact HB.out)⟩

/-- THE ONE PURE STATEMENT of decanterlaw03_ClassTexts: yours. -/
def decanterlaw03_ClassTexts.Pure : Prop := ∀ (a0 : ByteArray), a0.size ≤ 140737488351232 → ∃ k, decanterlaw03_ClassTexts.f k a0 = some true
theorem decanterlaw03_ClassTexts.walk (P : decanterlaw03_ClassTexts.Pure) (a0 : ByteArray) (w : World) (w0 : a0.size ≤ 140737488351232) :
    Calls Tryd.prog 9 #[.string a0] w fun e w' => e = .returned (.bool true) ∧ Below w.heap.size w w' := by
  obtain ⟨k, h⟩ := P a0 w0
  refine (decanterlaw03_ClassTexts.calls k a0 true w h).mono ?_
  rintro e w' ⟨rfl, hd⟩
  exact ⟨rfl, hd⟩

/-! ### decanterlaw03_ClassLaws: function 10 -/
mutual
def decanterlaw03_ClassLaws.j0 : Nat → ByteArray → ByteArray → Bool → Option (Bool)
  | 0, _, _, _ => none
  | k + 1, x0, x1, x18 => if x18 = true then ((decanterlaw03_speaks.f).bind fun t123 => (some t123)) else ((class_Small.f x0).bind fun t124 => ((class_Trim.f x0).bind fun t125 => ((class_Small.f t124).bind fun t126 => (if t126.toList = t124.toList then ((class_Trim.f t125).bind fun t127 => (if t127.toList = t125.toList then ((class_Trim.f t124).bind fun t128 => ((class_Small.f t125).bind fun t129 => (if t128.toList = t129.toList then (if x0.size + x1.size ≤ 9223372036854775807 then ((class_Small.f (x0 ++ x1)).bind fun t130 => ((class_Small.f x1).bind fun t131 => (if t124.size + t131.size ≤ 9223372036854775807 then (if t130.toList = (t124 ++ t131).toList then (decanterlaw03_ClassLaws.j1 k x0 x1 t124 t125 ((t124.size : Int) != (x0.size : Int))) else (decanterlaw03_ClassLaws.j1 k x0 x1 t124 t125 true)) else (none)))) else (none)) else (decanterlaw03_ClassLaws.j1 k x0 x1 t124 t125 true)))) else (decanterlaw03_ClassLaws.j1 k x0 x1 t124 t125 true))) else (decanterlaw03_ClassLaws.j1 k x0 x1 t124 t125 true)))))
def decanterlaw03_ClassLaws.j1 : Nat → ByteArray → ByteArray → ByteArray → ByteArray → Bool → Option (Bool)
  | 0, _, _, _, _, _ => none
  | k + 1, x0, x1, x5, x6, x58 => if x58 = true then (some false) else ((class_Name.f x0).bind fun t132 => (if t132 = true then (if x5.toList = x0.toList then (decanterlaw03_ClassLaws.j2 k x0 x1 (x6.toList != x0.toList)) else (decanterlaw03_ClassLaws.j2 k x0 x1 true)) else (decanterlaw03_ClassLaws.j2 k x0 x1 false)))
def decanterlaw03_ClassLaws.j2 : Nat → ByteArray → ByteArray → Bool → Option (Bool)
  | 0, _, _, _ => none
  | k + 1, x0, x1, x70 => if x70 = true then (some false) else ((class_Name.f x0).bind fun t133 => (if t133 = true then ((class_Name.f x1).bind fun t134 => (if t134 = true then (if x0.size + x1.size ≤ 9223372036854775807 then ((class_Name.f (x0 ++ x1)).bind fun t135 => (if t135 = true then (if x0.size + 1 ≤ 9223372036854775807 then (if (x0 ++ (⟨#[45]⟩ : ByteArray)).size + x1.size ≤ 9223372036854775807 then ((class_Name.f ((x0 ++ (⟨#[45]⟩ : ByteArray)) ++ x1)).bind fun t136 => (some t136)) else (none)) else (none)) else (some false))) else (none)) else (some true))) else (some true)))
end
def decanterlaw03_ClassLaws.f (k : Nat) (a0 : ByteArray) (a1 : ByteArray) : Option (Bool) := (decanterlaw03_speaks.f).bind fun t122 => (if t122 = true then (if (a0.size : Int) > 300 then (decanterlaw03_ClassLaws.j0 k a0 a1 true) else (decanterlaw03_ClassLaws.j0 k a0 a1 (decide ((a1.size : Int) > 300)))) else (decanterlaw03_ClassLaws.j0 k a0 a1 true))
theorem decanterlaw03_ClassLaws.mono_l : ∀ k, (∀ y0 y1 y2, LeO (decanterlaw03_ClassLaws.j0 k y0 y1 y2) (decanterlaw03_ClassLaws.j0 (k + 1) y0 y1 y2)) ∧ (∀ y0 y1 y2 y3 y4, LeO (decanterlaw03_ClassLaws.j1 k y0 y1 y2 y3 y4) (decanterlaw03_ClassLaws.j1 (k + 1) y0 y1 y2 y3 y4)) ∧ (∀ y0 y1 y2, LeO (decanterlaw03_ClassLaws.j2 k y0 y1 y2) (decanterlaw03_ClassLaws.j2 (k + 1) y0 y1 y2))
  | 0 => ⟨fun _ _ _ r h => by simp [decanterlaw03_ClassLaws.j0] at h, fun _ _ _ _ _ r h => by simp [decanterlaw03_ClassLaws.j1] at h, fun _ _ _ r h => by simp [decanterlaw03_ClassLaws.j2] at h⟩
  | k + 1 => by
    obtain ⟨ih0, ih1, ih2⟩ := decanterlaw03_ClassLaws.mono_l k
    refine ⟨?_, ?_, ?_⟩
    · intro y0 y1 y2
      unfold decanterlaw03_ClassLaws.j0
      repeat' first
      | (with_reducible exact ih0 _ _ _)
      | (with_reducible exact ih1 _ _ _ _ _)
      | (with_reducible exact ih2 _ _ _)
      | (with_reducible exact LeO.refl _)
      | (with_reducible exact LeO.none _)
      | (with_reducible refine LeO.ite ?_ ?_)
      | (with_reducible refine LeO.bind ?_ (fun _ => ?_))
      | exact ih0 _ _ _
      | exact ih1 _ _ _ _ _
      | exact ih2 _ _ _
      | exact LeO.none _
      | refine LeO.ite ?_ ?_
      | refine LeO.bind ?_ (fun _ => ?_)
    · intro y0 y1 y2 y3 y4
      unfold decanterlaw03_ClassLaws.j1
      repeat' first
      | (with_reducible exact ih0 _ _ _)
      | (with_reducible exact ih1 _ _ _ _ _)
      | (with_reducible exact ih2 _ _ _)
      | (with_reducible exact LeO.refl _)
      | (with_reducible exact LeO.none _)
      | (with_reducible refine LeO.ite ?_ ?_)
      | (with_reducible refine LeO.bind ?_ (fun _ => ?_))
      | exact ih0 _ _ _
      | exact ih1 _ _ _ _ _
      | exact ih2 _ _ _
      | exact LeO.none _
      | refine LeO.ite ?_ ?_
      | refine LeO.bind ?_ (fun _ => ?_)
    · intro y0 y1 y2
      unfold decanterlaw03_ClassLaws.j2
      repeat' first
      | (with_reducible exact ih0 _ _ _)
      | (with_reducible exact ih1 _ _ _ _ _)
      | (with_reducible exact ih2 _ _ _)
      | (with_reducible exact LeO.refl _)
      | (with_reducible exact LeO.none _)
      | (with_reducible refine LeO.ite ?_ ?_)
      | (with_reducible refine LeO.bind ?_ (fun _ => ?_))
      | exact ih0 _ _ _
      | exact ih1 _ _ _ _ _
      | exact ih2 _ _ _
      | exact LeO.none _
      | refine LeO.ite ?_ ?_
      | refine LeO.bind ?_ (fun _ => ?_)
theorem decanterlaw03_ClassLaws.mono : ∀ a0 a1 k, LeO (decanterlaw03_ClassLaws.f k a0 a1) (decanterlaw03_ClassLaws.f (k + 1) a0 a1) := by
  intro a0 a1 k
  obtain ⟨ih0, ih1, ih2⟩ := decanterlaw03_ClassLaws.mono_l k
  unfold decanterlaw03_ClassLaws.f
  repeat' first
      | (with_reducible exact ih0 _ _ _)
      | (with_reducible exact ih1 _ _ _ _ _)
      | (with_reducible exact ih2 _ _ _)
      | (with_reducible exact LeO.refl _)
      | (with_reducible exact LeO.none _)
      | (with_reducible refine LeO.ite ?_ ?_)
      | (with_reducible refine LeO.bind ?_ (fun _ => ?_))
      | exact ih0 _ _ _
      | exact ih1 _ _ _ _ _
      | exact ih2 _ _ _
      | exact LeO.none _
      | refine LeO.ite ?_ ?_
      | refine LeO.bind ?_ (fun _ => ?_)
set_option maxHeartbeats 8000000 in
set_option maxRecDepth 100000 in
theorem decanterlaw03_ClassLaws.calls (k : Nat) (a0 : ByteArray) (a1 : ByteArray) (r : Bool) (w : World) (h : decanterlaw03_ClassLaws.f k a0 a1 = some r) :
    Calls Tryd.prog 10 #[.string a0, .string a1] w fun e w' => e = .returned (.bool r) ∧ Below w.heap.size w w' := by
  have HB := Aside0.mk (Below.refl w.heap.size w)
  have H : ((decanterlaw03_speaks.f).bind fun t122 => (if t122 = true then (if (a0.size : Int) > 300 then (decanterlaw03_ClassLaws.j0 k a0 a1 true) else (decanterlaw03_ClassLaws.j0 k a0 a1 (decide ((a1.size : Int) > 300)))) else (decanterlaw03_ClassLaws.j0 k a0 a1 true))) = some r := h
  clear h
  have HC3 := Aside0.mk H
  clear H
  go_enter Tryd.func10, Tryd.ntmps10
  go_upto_region 1 with (fail)
  go_cut [18] (fun v18 wc => ∃ (kq : Nat) (x18_2 : Bool), v18 = .bool x18_2 ∧ Aside0 (decanterlaw03_ClassLaws.j0 kq a0 a1 x18_2 = some r) ∧ Aside0 (kq ≤ k) ∧ Aside0 (Below w.heap.size w wc))
  case first =>
    have H := HC3.out
    clear HC3
    replace H := Option.bind_eq_some_iff.mp H
    obtain ⟨t122, A40, H⟩ := H
    replace H : (if t122 = true then (if (a0.size : Int) > 300 then (decanterlaw03_ClassLaws.j0 k a0 a1 true) else (decanterlaw03_ClassLaws.j0 k a0 a1 (decide ((a1.size : Int) > 300)))) else (decanterlaw03_ClassLaws.j0 k a0 a1 true)) = some r := H
    have A4 := Aside0.mk A40
    clear A40
    by_cases c5 : t122 = true
    · subst c5
      have H1 : (if (a0.size : Int) > 300 then (decanterlaw03_ClassLaws.j0 k a0 a1 true) else (decanterlaw03_ClassLaws.j0 k a0 a1 (decide ((a1.size : Int) > 300)))) = some r := by rw [if_pos rfl] at H; exact H
      clear H
      have H := H1
      clear H1
      by_cases c6 : (a0.size : Int) > 300
      · rw [if_pos c6] at H
        have c6b0 : decide (300 < (a0.size : Int)) = true := decide_eq_true c6
        have c6b1 : decide (300 < a0.size) = true := decide_eq_true (by omega)
        clear c6
        (first | rw [c6b0] | (simp only [i64_w, i32_w]; rw [c6b0]) | skip)
        have H' := Aside0.mk H
        clear H
        go_wp2_with (first | ((with_reducible refine gate_callee (f := 21) rfl ?_); refine goesL_ (some 7) rfl rfl Tryd.func21 (by kernel_rfl) rfl #[] rfl (by (try simp only [List.map_toArray, List.map_cons, List.map_nil]); first | done | rfl | (simp only [List.length_drop, List.length_take]; rfl)) ?_; (with_reducible refine (decanterlaw03_speaks.calls  true _ A4.out).mono ?_); rintro e w7 ⟨rfl, hb⟩; refine ⟨_, rfl, ?_⟩; have n0_ := Aside0.mk (below_step (by repeat (first | (with_reducible first | exact HB.out | apply below_alloc | apply pw_below_drewN | apply below_drew1) | exact HB.out)) hb); clear HB; have HB := n0_; clear n0_; (try clear hb); (try clear hb2); (try clear hk); (try clear hi)))
        go_meet
        case rel => exact ⟨_, (true), (by first | rfl | (simp; done) | (simp [*]; done)), H', ⟨by first | omega | exact Nat.le_refl _⟩, ⟨by repeat (first | (with_reducible first | exact HB.out | apply below_alloc | apply pw_below_drewN | apply below_drew1) | exact HB.out)⟩⟩
      · rw [if_neg c6] at H
        have c6b0 : decide (300 < (a0.size : Int)) = false := decide_eq_false c6
        have c6b1 : decide (300 < a0.size) = false := decide_eq_false (by omega)
        clear c6
        (first | rw [c6b0] | (simp only [i64_w, i32_w]; rw [c6b0]) | skip)
        have H' := Aside0.mk H
        clear H
        go_wp2_with (first | ((with_reducible refine gate_callee (f := 21) rfl ?_); refine goesL_ (some 7) rfl rfl Tryd.func21 (by kernel_rfl) rfl #[] rfl (by (try simp only [List.map_toArray, List.map_cons, List.map_nil]); first | done | rfl | (simp only [List.length_drop, List.length_take]; rfl)) ?_; (with_reducible refine (decanterlaw03_speaks.calls  true _ A4.out).mono ?_); rintro e w8 ⟨rfl, hb⟩; refine ⟨_, rfl, ?_⟩; have n0_ := Aside0.mk (below_step (by repeat (first | (with_reducible first | exact HB.out | apply below_alloc | apply pw_below_drewN | apply below_drew1) | exact HB.out)) hb); clear HB; have HB := n0_; clear n0_; (try clear hb); (try clear hb2); (try clear hk); (try clear hi)))
        go_meet
        case rel => exact ⟨_, (decide ((a1.size : Int) > 300)), (by first | rfl | (simp; done) | (simp [*]; done)), H', ⟨by first | omega | exact Nat.le_refl _⟩, ⟨by repeat (first | (with_reducible first | exact HB.out | apply below_alloc | apply pw_below_drewN | apply below_drew1) | exact HB.out)⟩⟩
    · replace c5 := Bool.eq_false_iff.mpr c5
      subst c5
      have H1 : (decanterlaw03_ClassLaws.j0 k a0 a1 true) = some r := by rw [if_neg (show ¬ (false = true) by decide)] at H; exact H
      clear H
      have H := H1
      clear H1
      have H' := Aside0.mk H
      clear H
      go_wp2_with (first | ((with_reducible refine gate_callee (f := 21) rfl ?_); refine goesL_ (some 7) rfl rfl Tryd.func21 (by kernel_rfl) rfl #[] rfl (by (try simp only [List.map_toArray, List.map_cons, List.map_nil]); first | done | rfl | (simp only [List.length_drop, List.length_take]; rfl)) ?_; (with_reducible refine (decanterlaw03_speaks.calls  false _ A4.out).mono ?_); rintro e w9 ⟨rfl, hb⟩; refine ⟨_, rfl, ?_⟩; have n0_ := Aside0.mk (below_step (by repeat (first | (with_reducible first | exact HB.out | apply below_alloc | apply pw_below_drewN | apply below_drew1) | exact HB.out)) hb); clear HB; have HB := n0_; clear n0_; (try clear hb); (try clear hb2); (try clear hk); (try clear hi)))
      go_meet
      case rel => exact ⟨_, (true), (by first | rfl | (simp; done) | (simp [*]; done)), H', ⟨by first | omega | exact Nat.le_refl _⟩, ⟨by repeat (first | (with_reducible first | exact HB.out | apply below_alloc | apply pw_below_drewN | apply below_drew1) | exact HB.out)⟩⟩
  case rest =>
    clear HC3
    try clear c1
    try clear c2
    try clear p2
    try clear c5
    try clear c6
    try clear c6b0
    try clear c6b1
    obtain ⟨kq, x18_2, rfl, HA, HJ2, HB⟩ := hcut
    cases kq with
    | zero => exact absurd HA.out (by simp [decanterlaw03_ClassLaws.j0])
    | succ kj2 =>
      have H := HA.out
      clear HA
      simp only [decanterlaw03_ClassLaws.j0] at H
      by_cases c10 : x18_2 = true
      · subst c10
        have H1 : ((decanterlaw03_speaks.f).bind fun t123 => (some t123)) = some r := by rw [if_pos rfl] at H; exact H
        clear H
        have H := H1
        clear H1
        replace H := Option.bind_eq_some_iff.mp H
        obtain ⟨t123, A110, H⟩ := H
        replace H : (some t123) = some r := H
        have A11 := Aside0.mk A110
        clear A110
        obtain rfl := Option.some.inj H
        go_wp2_with (first | ((with_reducible refine gate_callee (f := 21) rfl ?_); refine goesL_ (some 19) rfl rfl Tryd.func21 (by kernel_rfl) rfl #[] rfl (by (try simp only [List.map_toArray, List.map_cons, List.map_nil]); first | done | rfl | (simp only [List.length_drop, List.length_take]; rfl)) ?_; (with_reducible refine (decanterlaw03_speaks.calls  t123 _ A11.out).mono ?_); rintro e w12 ⟨rfl, hb⟩; refine ⟨_, rfl, ?_⟩; have n0_ := Aside0.mk (below_step (by repeat (first | (with_reducible first | exact HB.out | apply below_alloc | apply pw_below_drewN | apply below_drew1) | exact HB.out)) hb); clear HB; have HB := n0_; clear n0_; (try clear hb); (try clear hb2); (try clear hk); (try clear hi)))
        go_ret
        exact ⟨by first | rfl | (simp [errW_none, errW_some] <;> rfl) | (simp [*, errW_none, errW_some] <;> rfl), by repeat (first | (with_reducible first | exact HB.out | apply below_alloc | apply pw_below_drewN | apply below_drew1) | exact HB.out)⟩
      · replace c10 := Bool.eq_false_iff.mpr c10
        subst c10
        have H1 : ((class_Small.f a0).bind fun t124 => ((class_Trim.f a0).bind fun t125 => ((class_Small.f t124).bind fun t126 => (if t126.toList = t124.toList then ((class_Trim.f t125).bind fun t127 => (if t127.toList = t125.toList then ((class_Trim.f t124).bind fun t128 => ((class_Small.f t125).bind fun t129 => (if t128.toList = t129.toList then (if a0.size + a1.size ≤ 9223372036854775807 then ((class_Small.f (a0 ++ a1)).bind fun t130 => ((class_Small.f a1).bind fun t131 => (if t124.size + t131.size ≤ 9223372036854775807 then (if t130.toList = (t124 ++ t131).toList then (decanterlaw03_ClassLaws.j1 kj2 a0 a1 t124 t125 ((t124.size : Int) != (a0.size : Int))) else (decanterlaw03_ClassLaws.j1 kj2 a0 a1 t124 t125 true)) else (none)))) else (none)) else (decanterlaw03_ClassLaws.j1 kj2 a0 a1 t124 t125 true)))) else (decanterlaw03_ClassLaws.j1 kj2 a0 a1 t124 t125 true))) else (decanterlaw03_ClassLaws.j1 kj2 a0 a1 t124 t125 true))))) = some r := by rw [if_neg (show ¬ (false = true) by decide)] at H; exact H
        clear H
        have H := H1
        clear H1
        replace H := Option.bind_eq_some_iff.mp H
        obtain ⟨t124, A130, H⟩ := H
        replace H : ((class_Trim.f a0).bind fun t125 => ((class_Small.f t124).bind fun t126 => (if t126.toList = t124.toList then ((class_Trim.f t125).bind fun t127 => (if t127.toList = t125.toList then ((class_Trim.f t124).bind fun t128 => ((class_Small.f t125).bind fun t129 => (if t128.toList = t129.toList then (if a0.size + a1.size ≤ 9223372036854775807 then ((class_Small.f (a0 ++ a1)).bind fun t130 => ((class_Small.f a1).bind fun t131 => (if t124.size + t131.size ≤ 9223372036854775807 then (if t130.toList = (t124 ++ t131).toList then (decanterlaw03_ClassLaws.j1 kj2 a0 a1 t124 t125 ((t124.size : Int) != (a0.size : Int))) else (decanterlaw03_ClassLaws.j1 kj2 a0 a1 t124 t125 true)) else (none)))) else (none)) else (decanterlaw03_ClassLaws.j1 kj2 a0 a1 t124 t125 true)))) else (decanterlaw03_ClassLaws.j1 kj2 a0 a1 t124 t125 true))) else (decanterlaw03_ClassLaws.j1 kj2 a0 a1 t124 t125 true)))) = some r := H
        have A13 := Aside0.mk A130
        clear A130
        replace H := Option.bind_eq_some_iff.mp H
        obtain ⟨t125, A140, H⟩ := H
        replace H : ((class_Small.f t124).bind fun t126 => (if t126.toList = t124.toList then ((class_Trim.f t125).bind fun t127 => (if t127.toList = t125.toList then ((class_Trim.f t124).bind fun t128 => ((class_Small.f t125).bind fun t129 => (if t128.toList = t129.toList then (if a0.size + a1.size ≤ 9223372036854775807 then ((class_Small.f (a0 ++ a1)).bind fun t130 => ((class_Small.f a1).bind fun t131 => (if t124.size + t131.size ≤ 9223372036854775807 then (if t130.toList = (t124 ++ t131).toList then (decanterlaw03_ClassLaws.j1 kj2 a0 a1 t124 t125 ((t124.size : Int) != (a0.size : Int))) else (decanterlaw03_ClassLaws.j1 kj2 a0 a1 t124 t125 true)) else (none)))) else (none)) else (decanterlaw03_ClassLaws.j1 kj2 a0 a1 t124 t125 true)))) else (decanterlaw03_ClassLaws.j1 kj2 a0 a1 t124 t125 true))) else (decanterlaw03_ClassLaws.j1 kj2 a0 a1 t124 t125 true))) = some r := H
        have A14 := Aside0.mk A140
        clear A140
        have HC15 := Aside0.mk H
        clear H
        go_upto_region 4 with (first | ((with_reducible refine gate_callee (f := 22) rfl ?_); refine goesL_ (some 21) rfl rfl Tryd.func22 (by kernel_rfl) rfl #[.string a0] rfl (by (try simp only [List.map_toArray, List.map_cons, List.map_nil]); first | done | rfl | (simp only [List.length_drop, List.length_take]; rfl)) ?_; (with_reducible refine (class_Small.calls a0 t124 _ A13.out).mono ?_); rintro e w16 ⟨rfl, hb⟩; refine ⟨_, rfl, ?_⟩; have n0_ := Aside0.mk (below_step (by repeat (first | (with_reducible first | exact HB.out | apply below_alloc | apply pw_below_drewN | apply below_drew1) | exact HB.out)) hb); clear HB; have HB := n0_; clear n0_; (try clear hb); (try clear hb2); (try clear hk); (try clear hi)) | ((with_reducible refine gate_callee (f := 24) rfl ?_); refine goesL_ (some 23) rfl rfl Tryd.func24 (by kernel_rfl) rfl #[.string a0] rfl (by (try simp only [List.map_toArray, List.map_cons, List.map_nil]); first | done | rfl | (simp only [List.length_drop, List.length_take]; rfl)) ?_; (with_reducible refine (class_Trim.calls a0 t125 _ A14.out).mono ?_); rintro e w17 ⟨rfl, hb⟩; refine ⟨_, rfl, ?_⟩; have n0_ := Aside0.mk (below_step (by repeat (first | (with_reducible first | exact HB.out | apply below_alloc | apply pw_below_drewN | apply below_drew1) | exact HB.out)) hb); clear HB; have HB := n0_; clear n0_; (try clear hb); (try clear hb2); (try clear hk); (try clear hi)))
        (try simp only [Act.put, List.setIfInBounds_toArray, List.set_cons_zero, List.set_cons_succ])
        go_cut [58] (fun v58 wc => ∃ (kq : Nat) (x58_14 : Bool), v58 = .bool x58_14 ∧ Aside0 (decanterlaw03_ClassLaws.j1 kq a0 a1 t124 t125 x58_14 = some r) ∧ Aside0 (kq ≤ kj2) ∧ Aside0 (Below w.heap.size w wc))
        case first =>
          have H := HC15.out
          clear HC15
          replace H := Option.bind_eq_some_iff.mp H
          obtain ⟨t126, A180, H⟩ := H
          replace H : (if t126.toList = t124.toList then ((class_Trim.f t125).bind fun t127 => (if t127.toList = t125.toList then ((class_Trim.f t124).bind fun t128 => ((class_Small.f t125).bind fun t129 => (if t128.toList = t129.toList then (if a0.size + a1.size ≤ 9223372036854775807 then ((class_Small.f (a0 ++ a1)).bind fun t130 => ((class_Small.f a1).bind fun t131 => (if t124.size + t131.size ≤ 9223372036854775807 then (if t130.toList = (t124 ++ t131).toList then (decanterlaw03_ClassLaws.j1 kj2 a0 a1 t124 t125 ((t124.size : Int) != (a0.size : Int))) else (decanterlaw03_ClassLaws.j1 kj2 a0 a1 t124 t125 true)) else (none)))) else (none)) else (decanterlaw03_ClassLaws.j1 kj2 a0 a1 t124 t125 true)))) else (decanterlaw03_ClassLaws.j1 kj2 a0 a1 t124 t125 true))) else (decanterlaw03_ClassLaws.j1 kj2 a0 a1 t124 t125 true)) = some r := H
          have A18 := Aside0.mk A180
          clear A180
          by_cases c19 : t126.toList = t124.toList
          · rw [if_pos c19] at H
            have c19b0 : (t126.toList == t124.toList) = true := beq_iff_eq.mpr c19
            have c19b1 : (t126.toList != t124.toList) = false := bne_eq_false_iff_eq.mpr c19
            clear c19
            (first | rw [c19b0] | (simp only [i64_w, i32_w]; rw [c19b0]) | skip)
            replace H := Option.bind_eq_some_iff.mp H
            obtain ⟨t127, A200, H⟩ := H
            replace H : (if t127.toList = t125.toList then ((class_Trim.f t124).bind fun t128 => ((class_Small.f t125).bind fun t129 => (if t128.toList = t129.toList then (if a0.size + a1.size ≤ 9223372036854775807 then ((class_Small.f (a0 ++ a1)).bind fun t130 => ((class_Small.f a1).bind fun t131 => (if t124.size + t131.size ≤ 9223372036854775807 then (if t130.toList = (t124 ++ t131).toList then (decanterlaw03_ClassLaws.j1 kj2 a0 a1 t124 t125 ((t124.size : Int) != (a0.size : Int))) else (decanterlaw03_ClassLaws.j1 kj2 a0 a1 t124 t125 true)) else (none)))) else (none)) else (decanterlaw03_ClassLaws.j1 kj2 a0 a1 t124 t125 true)))) else (decanterlaw03_ClassLaws.j1 kj2 a0 a1 t124 t125 true)) = some r := H
            have A20 := Aside0.mk A200
            clear A200
            by_cases c21 : t127.toList = t125.toList
            · rw [if_pos c21] at H
              have c21b0 : (t127.toList == t125.toList) = true := beq_iff_eq.mpr c21
              have c21b1 : (t127.toList != t125.toList) = false := bne_eq_false_iff_eq.mpr c21
              clear c21
              replace H := Option.bind_eq_some_iff.mp H
              obtain ⟨t128, A220, H⟩ := H
              replace H : ((class_Small.f t125).bind fun t129 => (if t128.toList = t129.toList then (if a0.size + a1.size ≤ 9223372036854775807 then ((class_Small.f (a0 ++ a1)).bind fun t130 => ((class_Small.f a1).bind fun t131 => (if t124.size + t131.size ≤ 9223372036854775807 then (if t130.toList = (t124 ++ t131).toList then (decanterlaw03_ClassLaws.j1 kj2 a0 a1 t124 t125 ((t124.size : Int) != (a0.size : Int))) else (decanterlaw03_ClassLaws.j1 kj2 a0 a1 t124 t125 true)) else (none)))) else (none)) else (decanterlaw03_ClassLaws.j1 kj2 a0 a1 t124 t125 true))) = some r := H
              have A22 := Aside0.mk A220
              clear A220
              replace H := Option.bind_eq_some_iff.mp H
              obtain ⟨t129, A230, H⟩ := H
              replace H : (if t128.toList = t129.toList then (if a0.size + a1.size ≤ 9223372036854775807 then ((class_Small.f (a0 ++ a1)).bind fun t130 => ((class_Small.f a1).bind fun t131 => (if t124.size + t131.size ≤ 9223372036854775807 then (if t130.toList = (t124 ++ t131).toList then (decanterlaw03_ClassLaws.j1 kj2 a0 a1 t124 t125 ((t124.size : Int) != (a0.size : Int))) else (decanterlaw03_ClassLaws.j1 kj2 a0 a1 t124 t125 true)) else (none)))) else (none)) else (decanterlaw03_ClassLaws.j1 kj2 a0 a1 t124 t125 true)) = some r := H
              have A23 := Aside0.mk A230
              clear A230
              by_cases c24 : t128.toList = t129.toList
              · rw [if_pos c24] at H
                have c24b0 : (t128.toList == t129.toList) = true := beq_iff_eq.mpr c24
                have c24b1 : (t128.toList != t129.toList) = false := bne_eq_false_iff_eq.mpr c24
                clear c24
                by_cases c25 : a0.size + a1.size ≤ 9223372036854775807
                · rw [if_pos c25] at H
                  have c25b0 := eq_true c25
                  have c25b1 : decide (a0.size + a1.size ≤ 9223372036854775807) = true := decide_eq_true c25
                  try have c25b2 : (9223372036854775807 < a0.size + a1.size) = False := eq_false (Nat.not_lt.2 c25)
                  replace H := Option.bind_eq_some_iff.mp H
                  obtain ⟨t130, A260, H⟩ := H
                  replace H : ((class_Small.f a1).bind fun t131 => (if t124.size + t131.size ≤ 9223372036854775807 then (if t130.toList = (t124 ++ t131).toList then (decanterlaw03_ClassLaws.j1 kj2 a0 a1 t124 t125 ((t124.size : Int) != (a0.size : Int))) else (decanterlaw03_ClassLaws.j1 kj2 a0 a1 t124 t125 true)) else (none))) = some r := H
                  have A26 := Aside0.mk A260
                  clear A260
                  replace H := Option.bind_eq_some_iff.mp H
                  obtain ⟨t131, A270, H⟩ := H
                  replace H : (if t124.size + t131.size ≤ 9223372036854775807 then (if t130.toList = (t124 ++ t131).toList then (decanterlaw03_ClassLaws.j1 kj2 a0 a1 t124 t125 ((t124.size : Int) != (a0.size : Int))) else (decanterlaw03_ClassLaws.j1 kj2 a0 a1 t124 t125 true)) else (none)) = some r := H
                  have A27 := Aside0.mk A270
                  clear A270
                  by_cases c28 : t124.size + t131.size ≤ 9223372036854775807
                  · rw [if_pos c28] at H
                    have c28b0 := eq_true c28
                    have c28b1 : decide (t124.size + t131.size ≤ 9223372036854775807) = true := decide_eq_true c28
                    try have c28b2 : (9223372036854775807 < t124.size + t131.size) = False := eq_false (Nat.not_lt.2 c28)
                    by_cases c29 : t130.toList = (t124 ++ t131).toList
                    · rw [if_pos c29] at H
                      have c29b0 : (t130.toList == (t124 ++ t131).toList) = true := beq_iff_eq.mpr c29
                      have c29b1 : (t130.toList != (t124 ++ t131).toList) = false := bne_eq_false_iff_eq.mpr c29
                      clear c29
                      have H' := Aside0.mk H
                      clear H
                      go_wp2_with (first | ((with_reducible refine gate_callee (f := 22) rfl ?_); refine goesL_ (some 25) rfl rfl Tryd.func22 (by kernel_rfl) rfl #[.string t124] rfl (by (try simp only [List.map_toArray, List.map_cons, List.map_nil]); first | done | rfl | (simp only [List.length_drop, List.length_take]; rfl)) ?_; (with_reducible refine (class_Small.calls t124 t126 _ A18.out).mono ?_); rintro e w30 ⟨rfl, hb⟩; refine ⟨_, rfl, ?_⟩; have n0_ := Aside0.mk (below_step (by repeat (first | (with_reducible first | exact HB.out | apply below_alloc | apply pw_below_drewN | apply below_drew1) | exact HB.out)) hb); clear HB; have HB := n0_; clear n0_; (try clear hb); (try clear hb2); (try clear hk); (try clear hi)) | (go_at_call 24; (with_reducible refine (class_Trim.calls t125 t127 _ A20.out).mono ?_); rintro e w31 ⟨rfl, hb⟩; have n0_ := Aside0.mk (below_step (by repeat (first | (with_reducible first | exact HB.out | apply below_alloc | apply pw_below_drewN | apply below_drew1) | exact HB.out)) hb); clear HB; have HB := n0_; clear n0_; (try clear hb); (try clear hb2); (try clear hk); (try clear hi)) | (go_at_call 24; (with_reducible refine (class_Trim.calls t124 t128 _ A22.out).mono ?_); rintro e w32 ⟨rfl, hb⟩; have n0_ := Aside0.mk (below_step (by repeat (first | (with_reducible first | exact HB.out | apply below_alloc | apply pw_below_drewN | apply below_drew1) | exact HB.out)) hb); clear HB; have HB := n0_; clear n0_; (try clear hb); (try clear hb2); (try clear hk); (try clear hi)) | (go_at_call 22; (with_reducible refine (class_Small.calls t125 t129 _ A23.out).mono ?_); rintro e w33 ⟨rfl, hb⟩; have n0_ := Aside0.mk (below_step (by repeat (first | (with_reducible first | exact HB.out | apply below_alloc | apply pw_below_drewN | apply below_drew1) | exact HB.out)) hb); clear HB; have HB := n0_; clear n0_; (try clear hb); (try clear hb2); (try clear hk); (try clear hi)) | (go_at_call 22; (with_reducible refine (class_Small.calls (a0 ++ a1) t130 _ A26.out).mono ?_); rintro e w34 ⟨rfl, hb⟩; have n0_ := Aside0.mk (below_step (by repeat (first | (with_reducible first | exact HB.out | apply below_alloc | apply pw_below_drewN | apply below_drew1) | exact HB.out)) hb); clear HB; have HB := n0_; clear n0_; (try clear hb); (try clear hb2); (try clear hk); (try clear hi)) | (go_at_call 22; (with_reducible refine (class_Small.calls a1 t131 _ A27.out).mono ?_); rintro e w35 ⟨rfl, hb⟩; have n0_ := Aside0.mk (below_step (by repeat (first | (with_reducible first | exact HB.out | apply below_alloc | apply pw_below_drewN | apply below_drew1) | exact HB.out)) hb); clear HB; have HB := n0_; clear n0_; (try clear hb); (try clear hb2); (try clear hk); (try clear hi)))
                      go_meet
                      case rel => exact ⟨_, (((t124.size : Int) != (a0.size : Int))), (by first | rfl | (simp; done) | (simp [*]; done)), H', ⟨by have := HJ2.out; first | omega | exact Nat.le_refl _⟩, ⟨by repeat (first | (with_reducible first | exact HB.out | apply below_alloc | apply pw_below_drewN | apply below_drew1) | exact HB.out)⟩⟩
                    · rw [if_neg c29] at H
                      have c29b0 : (t130.toList == (t124 ++ t131).toList) = false := beq_eq_false_iff_ne.mpr c29
                      have c29b1 : (t130.toList != (t124 ++ t131).toList) = true := bne_iff_ne.mpr c29
                      have H' := Aside0.mk H
                      clear H
                      go_wp2_with (first | ((with_reducible refine gate_callee (f := 22) rfl ?_); refine goesL_ (some 25) rfl rfl Tryd.func22 (by kernel_rfl) rfl #[.string t124] rfl (by (try simp only [List.map_toArray, List.map_cons, List.map_nil]); first | done | rfl | (simp only [List.length_drop, List.length_take]; rfl)) ?_; (with_reducible refine (class_Small.calls t124 t126 _ A18.out).mono ?_); rintro e w36 ⟨rfl, hb⟩; refine ⟨_, rfl, ?_⟩; have n0_ := Aside0.mk (below_step (by repeat (first | (with_reducible first | exact HB.out | apply below_alloc | apply pw_below_drewN | apply below_drew1) | exact HB.out)) hb); clear HB; have HB := n0_; clear n0_; (try clear hb); (try clear hb2); (try clear hk); (try clear hi)) | (go_at_call 24; (with_reducible refine (class_Trim.calls t125 t127 _ A20.out).mono ?_); rintro e w37 ⟨rfl, hb⟩; have n0_ := Aside0.mk (below_step (by repeat (first | (with_reducible first | exact HB.out | apply below_alloc | apply pw_below_drewN | apply below_drew1) | exact HB.out)) hb); clear HB; have HB := n0_; clear n0_; (try clear hb); (try clear hb2); (try clear hk); (try clear hi)) | (go_at_call 24; (with_reducible refine (class_Trim.calls t124 t128 _ A22.out).mono ?_); rintro e w38 ⟨rfl, hb⟩; have n0_ := Aside0.mk (below_step (by repeat (first | (with_reducible first | exact HB.out | apply below_alloc | apply pw_below_drewN | apply below_drew1) | exact HB.out)) hb); clear HB; have HB := n0_; clear n0_; (try clear hb); (try clear hb2); (try clear hk); (try clear hi)) | (go_at_call 22; (with_reducible refine (class_Small.calls t125 t129 _ A23.out).mono ?_); rintro e w39 ⟨rfl, hb⟩; have n0_ := Aside0.mk (below_step (by repeat (first | (with_reducible first | exact HB.out | apply below_alloc | apply pw_below_drewN | apply below_drew1) | exact HB.out)) hb); clear HB; have HB := n0_; clear n0_; (try clear hb); (try clear hb2); (try clear hk); (try clear hi)) | (go_at_call 22; (with_reducible refine (class_Small.calls (a0 ++ a1) t130 _ A26.out).mono ?_); rintro e w40 ⟨rfl, hb⟩; have n0_ := Aside0.mk (below_step (by repeat (first | (with_reducible first | exact HB.out | apply below_alloc | apply pw_below_drewN | apply below_drew1) | exact HB.out)) hb); clear HB; have HB := n0_; clear n0_; (try clear hb); (try clear hb2); (try clear hk); (try clear hi)) | (go_at_call 22; (with_reducible refine (class_Small.calls a1 t131 _ A27.out).mono ?_); rintro e w41 ⟨rfl, hb⟩; have n0_ := Aside0.mk (below_step (by repeat (first | (with_reducible first | exact HB.out | apply below_alloc | apply pw_below_drewN | apply below_drew1) | exact HB.out)) hb); clear HB; have HB := n0_; clear n0_; (try clear hb); (try clear hb2); (try clear hk); (try clear hi)))
                      go_meet
                      case rel => exact ⟨_, (true), (by first | rfl | (simp; done) | (simp [*]; done)), H', ⟨by have := HJ2.out; first | omega | exact Nat.le_refl _⟩, ⟨by repeat (first | (with_reducible first | exact HB.out | apply below_alloc | apply pw_below_drewN | apply below_drew1) | exact HB.out)⟩⟩
                  · rw [if_neg c28] at H
                    exact absurd H (by simp)
                · rw [if_neg c25] at H
                  exact absurd H (by simp)
              · rw [if_neg c24] at H
                have c24b0 : (t128.toList == t129.toList) = false := beq_eq_false_iff_ne.mpr c24
                have c24b1 : (t128.toList != t129.toList) = true := bne_iff_ne.mpr c24
                have H' := Aside0.mk H
                clear H
                go_wp2_with (first | ((with_reducible refine gate_callee (f := 22) rfl ?_); refine goesL_ (some 25) rfl rfl Tryd.func22 (by kernel_rfl) rfl #[.string t124] rfl (by (try simp only [List.map_toArray, List.map_cons, List.map_nil]); first | done | rfl | (simp only [List.length_drop, List.length_take]; rfl)) ?_; (with_reducible refine (class_Small.calls t124 t126 _ A18.out).mono ?_); rintro e w42 ⟨rfl, hb⟩; refine ⟨_, rfl, ?_⟩; have n0_ := Aside0.mk (below_step (by repeat (first | (with_reducible first | exact HB.out | apply below_alloc | apply pw_below_drewN | apply below_drew1) | exact HB.out)) hb); clear HB; have HB := n0_; clear n0_; (try clear hb); (try clear hb2); (try clear hk); (try clear hi)) | (go_at_call 24; (with_reducible refine (class_Trim.calls t125 t127 _ A20.out).mono ?_); rintro e w43 ⟨rfl, hb⟩; have n0_ := Aside0.mk (below_step (by repeat (first | (with_reducible first | exact HB.out | apply below_alloc | apply pw_below_drewN | apply below_drew1) | exact HB.out)) hb); clear HB; have HB := n0_; clear n0_; (try clear hb); (try clear hb2); (try clear hk); (try clear hi)) | (go_at_call 24; (with_reducible refine (class_Trim.calls t124 t128 _ A22.out).mono ?_); rintro e w44 ⟨rfl, hb⟩; have n0_ := Aside0.mk (below_step (by repeat (first | (with_reducible first | exact HB.out | apply below_alloc | apply pw_below_drewN | apply below_drew1) | exact HB.out)) hb); clear HB; have HB := n0_; clear n0_; (try clear hb); (try clear hb2); (try clear hk); (try clear hi)) | (go_at_call 22; (with_reducible refine (class_Small.calls t125 t129 _ A23.out).mono ?_); rintro e w45 ⟨rfl, hb⟩; have n0_ := Aside0.mk (below_step (by repeat (first | (with_reducible first | exact HB.out | apply below_alloc | apply pw_below_drewN | apply below_drew1) | exact HB.out)) hb); clear HB; have HB := n0_; clear n0_; (try clear hb); (try clear hb2); (try clear hk); (try clear hi)))
                go_meet
                case rel => exact ⟨_, (true), (by first | rfl | (simp; done) | (simp [*]; done)), H', ⟨by have := HJ2.out; first | omega | exact Nat.le_refl _⟩, ⟨by repeat (first | (with_reducible first | exact HB.out | apply below_alloc | apply pw_below_drewN | apply below_drew1) | exact HB.out)⟩⟩
            · rw [if_neg c21] at H
              have c21b0 : (t127.toList == t125.toList) = false := beq_eq_false_iff_ne.mpr c21
              have c21b1 : (t127.toList != t125.toList) = true := bne_iff_ne.mpr c21
              have H' := Aside0.mk H
              clear H
              go_wp2_with (first | ((with_reducible refine gate_callee (f := 22) rfl ?_); refine goesL_ (some 25) rfl rfl Tryd.func22 (by kernel_rfl) rfl #[.string t124] rfl (by (try simp only [List.map_toArray, List.map_cons, List.map_nil]); first | done | rfl | (simp only [List.length_drop, List.length_take]; rfl)) ?_; (with_reducible refine (class_Small.calls t124 t126 _ A18.out).mono ?_); rintro e w46 ⟨rfl, hb⟩; refine ⟨_, rfl, ?_⟩; have n0_ := Aside0.mk (below_step (by repeat (first | (with_reducible first | exact HB.out | apply below_alloc | apply pw_below_drewN | apply below_drew1) | exact HB.out)) hb); clear HB; have HB := n0_; clear n0_; (try clear hb); (try clear hb2); (try clear hk); (try clear hi)) | (go_at_call 24; (with_reducible refine (class_Trim.calls t125 t127 _ A20.out).mono ?_); rintro e w47 ⟨rfl, hb⟩; have n0_ := Aside0.mk (below_step (by repeat (first | (with_reducible first | exact HB.out | apply below_alloc | apply pw_below_drewN | apply below_drew1) | exact HB.out)) hb); clear HB; have HB := n0_; clear n0_; (try clear hb); (try clear hb2); (try clear hk); (try clear hi)))
              go_meet
              case rel => exact ⟨_, (true), (by first | rfl | (simp; done) | (simp [*]; done)), H', ⟨by have := HJ2.out; first | omega | exact Nat.le_refl _⟩, ⟨by repeat (first | (with_reducible first | exact HB.out | apply below_alloc | apply pw_below_drewN | apply below_drew1) | exact HB.out)⟩⟩
          · rw [if_neg c19] at H
            have c19b0 : (t126.toList == t124.toList) = false := beq_eq_false_iff_ne.mpr c19
            have c19b1 : (t126.toList != t124.toList) = true := bne_iff_ne.mpr c19
            (first | rw [c19b0] | (simp only [i64_w, i32_w]; rw [c19b0]) | skip)
            have H' := Aside0.mk H
            clear H
            go_wp2_with (first | ((with_reducible refine gate_callee (f := 22) rfl ?_); refine goesL_ (some 25) rfl rfl Tryd.func22 (by kernel_rfl) rfl #[.string t124] rfl (by (try simp only [List.map_toArray, List.map_cons, List.map_nil]); first | done | rfl | (simp only [List.length_drop, List.length_take]; rfl)) ?_; (with_reducible refine (class_Small.calls t124 t126 _ A18.out).mono ?_); rintro e w48 ⟨rfl, hb⟩; refine ⟨_, rfl, ?_⟩; have n0_ := Aside0.mk (below_step (by repeat (first | (with_reducible first | exact HB.out | apply below_alloc | apply pw_below_drewN | apply below_drew1) | exact HB.out)) hb); clear HB; have HB := n0_; clear n0_; (try clear hb); (try clear hb2); (try clear hk); (try clear hi)))
            go_meet
            case rel => exact ⟨_, (true), (by first | rfl | (simp; done) | (simp [*]; done)), H', ⟨by have := HJ2.out; first | omega | exact Nat.le_refl _⟩, ⟨by repeat (first | (with_reducible first | exact HB.out | apply below_alloc | apply pw_below_drewN | apply below_drew1) | exact HB.out)⟩⟩
        case rest =>
          clear HC15
          try clear c1
          try clear c2
          try clear p2
          try clear c5
          try clear c6
          try clear c6b0
          try clear c6b1
          try clear c10
          try clear c19
          try clear c19b0
          try clear c19b1
          try clear c21
          try clear c21b0
          try clear c21b1
          try clear c22
          try clear c24
          try clear c24b0
          try clear c24b1
          try clear c25
          try clear c25b0
          try clear c25b1
          try clear c25b2
          try clear c28
          try clear c28b0
          try clear c28b1
          try clear c28b2
          try clear c29
          try clear c29b0
          try clear c29b1
          try clear p2
          obtain ⟨kq, x58_14, rfl, HA, HJ14, HB⟩ := hcut
          cases kq with
          | zero => exact absurd HA.out (by simp [decanterlaw03_ClassLaws.j1])
          | succ kj14 =>
            have H := HA.out
            clear HA
            simp only [decanterlaw03_ClassLaws.j1] at H
            by_cases c49 : x58_14 = true
            · subst c49
              have H1 : (some false) = some r := by rw [if_pos rfl] at H; exact H
              clear H
              have H := H1
              clear H1
              obtain rfl := Option.some.inj H
              go_wp2
              go_ret
              exact ⟨by first | rfl | (simp [errW_none, errW_some] <;> rfl) | (simp [*, errW_none, errW_some] <;> rfl), by repeat (first | (with_reducible first | exact HB.out | apply below_alloc | apply pw_below_drewN | apply below_drew1) | exact HB.out)⟩
            · replace c49 := Bool.eq_false_iff.mpr c49
              subst c49
              have H1 : ((class_Name.f a0).bind fun t132 => (if t132 = true then (if t124.toList = a0.toList then (decanterlaw03_ClassLaws.j2 kj14 a0 a1 (t125.toList != a0.toList)) else (decanterlaw03_ClassLaws.j2 kj14 a0 a1 true)) else (decanterlaw03_ClassLaws.j2 kj14 a0 a1 false))) = some r := by rw [if_neg (show ¬ (false = true) by decide)] at H; exact H
              clear H
              have H := H1
              clear H1
              have HC50 := Aside0.mk H
              clear H
              go_upto_region 6 with (fail)
              go_cut [70] (fun v70 wc => ∃ (kq : Nat) (x70_49 : Bool), v70 = .bool x70_49 ∧ Aside0 (decanterlaw03_ClassLaws.j2 kq a0 a1 x70_49 = some r) ∧ Aside0 (kq ≤ kj14) ∧ Aside0 (Below w.heap.size w wc))
              case first =>
                have H := HC50.out
                clear HC50
                replace H := Option.bind_eq_some_iff.mp H
                obtain ⟨t132, A510, H⟩ := H
                replace H : (if t132 = true then (if t124.toList = a0.toList then (decanterlaw03_ClassLaws.j2 kj14 a0 a1 (t125.toList != a0.toList)) else (decanterlaw03_ClassLaws.j2 kj14 a0 a1 true)) else (decanterlaw03_ClassLaws.j2 kj14 a0 a1 false)) = some r := H
                have A51 := Aside0.mk A510
                clear A510
                by_cases c52 : t132 = true
                · subst c52
                  have H1 : (if t124.toList = a0.toList then (decanterlaw03_ClassLaws.j2 kj14 a0 a1 (t125.toList != a0.toList)) else (decanterlaw03_ClassLaws.j2 kj14 a0 a1 true)) = some r := by rw [if_pos rfl] at H; exact H
                  clear H
                  have H := H1
                  clear H1
                  by_cases c53 : t124.toList = a0.toList
                  · rw [if_pos c53] at H
                    have c53b0 : (t124.toList == a0.toList) = true := beq_iff_eq.mpr c53
                    have c53b1 : (t124.toList != a0.toList) = false := bne_eq_false_iff_eq.mpr c53
                    clear c53
                    (first | rw [c53b0] | (simp only [i64_w, i32_w]; rw [c53b0]) | skip)
                    have H' := Aside0.mk H
                    clear H
                    go_wp2_with (first | ((with_reducible refine gate_callee (f := 26) rfl ?_); refine goesL_ (some 60) rfl rfl Tryd.func26 (by kernel_rfl) rfl #[.string a0] rfl (by (try simp only [List.map_toArray, List.map_cons, List.map_nil]); first | done | rfl | (simp only [List.length_drop, List.length_take]; rfl)) ?_; (with_reducible refine (class_Name.calls a0 true _ A51.out).mono ?_); rintro e w54 ⟨rfl, hb⟩; refine ⟨_, rfl, ?_⟩; have n0_ := Aside0.mk (below_step (by repeat (first | (with_reducible first | exact HB.out | apply below_alloc | apply pw_below_drewN | apply below_drew1) | exact HB.out)) hb); clear HB; have HB := n0_; clear n0_; (try clear hb); (try clear hb2); (try clear hk); (try clear hi)))
                    go_meet
                    case rel => exact ⟨_, ((t125.toList != a0.toList)), (by first | rfl | (simp; done) | (simp [*]; done)), H', ⟨by have := HJ2.out; have := HJ14.out; first | omega | exact Nat.le_refl _⟩, ⟨by repeat (first | (with_reducible first | exact HB.out | apply below_alloc | apply pw_below_drewN | apply below_drew1) | exact HB.out)⟩⟩
                  · rw [if_neg c53] at H
                    have c53b0 : (t124.toList == a0.toList) = false := beq_eq_false_iff_ne.mpr c53
                    have c53b1 : (t124.toList != a0.toList) = true := bne_iff_ne.mpr c53
                    (first | rw [c53b0] | (simp only [i64_w, i32_w]; rw [c53b0]) | skip)
                    have H' := Aside0.mk H
                    clear H
                    go_wp2_with (first | ((with_reducible refine gate_callee (f := 26) rfl ?_); refine goesL_ (some 60) rfl rfl Tryd.func26 (by kernel_rfl) rfl #[.string a0] rfl (by (try simp only [List.map_toArray, List.map_cons, List.map_nil]); first | done | rfl | (simp only [List.length_drop, List.length_take]; rfl)) ?_; (with_reducible refine (class_Name.calls a0 true _ A51.out).mono ?_); rintro e w55 ⟨rfl, hb⟩; refine ⟨_, rfl, ?_⟩; have n0_ := Aside0.mk (below_step (by repeat (first | (with_reducible first | exact HB.out | apply below_alloc | apply pw_below_drewN | apply below_drew1) | exact HB.out)) hb); clear HB; have HB := n0_; clear n0_; (try clear hb); (try clear hb2); (try clear hk); (try clear hi)))
                    go_meet
                    case rel => exact ⟨_, (true), (by first | rfl | (simp; done) | (simp [*]; done)), H', ⟨by have := HJ2.out; have := HJ14.out; first | omega | exact Nat.le_refl _⟩, ⟨by repeat (first | (with_reducible first | exact HB.out | apply below_alloc | apply pw_below_drewN | apply below_drew1) | exact HB.out)⟩⟩
                · replace c52 := Bool.eq_false_iff.mpr c52
                  subst c52
                  have H1 : (decanterlaw03_ClassLaws.j2 kj14 a0 a1 false) = some r := by rw [if_neg (show ¬ (false = true) by decide)] at H; exact H
                  clear H
                  have H := H1
                  clear H1
                  have H' := Aside0.mk H
                  clear H
                  go_wp2_with (first | ((with_reducible refine gate_callee (f := 26) rfl ?_); refine goesL_ (some 60) rfl rfl Tryd.func26 (by kernel_rfl) rfl #[.string a0] rfl (by (try simp only [List.map_toArray, List.map_cons, List.map_nil]); first | done | rfl | (simp only [List.length_drop, List.length_take]; rfl)) ?_; (with_reducible refine (class_Name.calls a0 false _ A51.out).mono ?_); rintro e w56 ⟨rfl, hb⟩; refine ⟨_, rfl, ?_⟩; have n0_ := Aside0.mk (below_step (by repeat (first | (with_reducible first | exact HB.out | apply below_alloc | apply pw_below_drewN | apply below_drew1) | exact HB.out)) hb); clear HB; have HB := n0_; clear n0_; (try clear hb); (try clear hb2); (try clear hk); (try clear hi)))
                  go_meet
                  case rel => exact ⟨_, (false), (by first | rfl | (simp; done) | (simp [*]; done)), H', ⟨by have := HJ2.out; have := HJ14.out; first | omega | exact Nat.le_refl _⟩, ⟨by repeat (first | (with_reducible first | exact HB.out | apply below_alloc | apply pw_below_drewN | apply below_drew1) | exact HB.out)⟩⟩
              case rest =>
                clear HC50
                try clear c1
                try clear c2
                try clear p2
                try clear c4
                try clear c5
                try clear c6
                try clear c6b0
                try clear c6b1
                try clear c10
                try clear c19
                try clear c19b0
                try clear c19b1
                try clear c21
                try clear c21b0
                try clear c21b1
                try clear c22
                try clear c24
                try clear c24b0
                try clear c24b1
                try clear c25
                try clear c25b0
                try clear c25b1
                try clear c25b2
                try clear c26
                try clear c28
                try clear c28b0
                try clear c28b1
                try clear c28b2
                try clear c29
                try clear c29b0
                try clear c29b1
                try clear c49
                try clear c52
                try clear c53
                try clear c53b0
                try clear c53b1
                try clear p2
                obtain ⟨kq, x70_49, rfl, HA, HJ49, HB⟩ := hcut
                cases kq with
                | zero => exact absurd HA.out (by simp [decanterlaw03_ClassLaws.j2])
                | succ kj49 =>
                  have H := HA.out
                  clear HA
                  simp only [decanterlaw03_ClassLaws.j2] at H
                  by_cases c57 : x70_49 = true
                  · subst c57
                    have H1 : (some false) = some r := by rw [if_pos rfl] at H; exact H
                    clear H
                    have H := H1
                    clear H1
                    obtain rfl := Option.some.inj H
                    go_wp2
                    go_ret
                    exact ⟨by first | rfl | (simp [errW_none, errW_some] <;> rfl) | (simp [*, errW_none, errW_some] <;> rfl), by repeat (first | (with_reducible first | exact HB.out | apply below_alloc | apply pw_below_drewN | apply below_drew1) | exact HB.out)⟩
                  · replace c57 := Bool.eq_false_iff.mpr c57
                    subst c57
                    have H1 : ((class_Name.f a0).bind fun t133 => (if t133 = true then ((class_Name.f a1).bind fun t134 => (if t134 = true then (if a0.size + a1.size ≤ 9223372036854775807 then ((class_Name.f (a0 ++ a1)).bind fun t135 => (if t135 = true then (if a0.size + 1 ≤ 9223372036854775807 then (if (a0 ++ (⟨#[45]⟩ : ByteArray)).size + a1.size ≤ 9223372036854775807 then ((class_Name.f ((a0 ++ (⟨#[45]⟩ : ByteArray)) ++ a1)).bind fun t136 => (some t136)) else (none)) else (none)) else (some false))) else (none)) else (some true))) else (some true))) = some r := by rw [if_neg (show ¬ (false = true) by decide)] at H; exact H
                    clear H
                    have H := H1
                    clear H1
                    replace H := Option.bind_eq_some_iff.mp H
                    obtain ⟨t133, A580, H⟩ := H
                    replace H : (if t133 = true then ((class_Name.f a1).bind fun t134 => (if t134 = true then (if a0.size + a1.size ≤ 9223372036854775807 then ((class_Name.f (a0 ++ a1)).bind fun t135 => (if t135 = true then (if a0.size + 1 ≤ 9223372036854775807 then (if (a0 ++ (⟨#[45]⟩ : ByteArray)).size + a1.size ≤ 9223372036854775807 then ((class_Name.f ((a0 ++ (⟨#[45]⟩ : ByteArray)) ++ a1)).bind fun t136 => (some t136)) else (none)) else (none)) else (some false))) else (none)) else (some true))) else (some true)) = some r := H
                    have A58 := Aside0.mk A580
                    clear A580
                    by_cases c59 : t133 = true
                    · subst c59
                      have H1 : ((class_Name.f a1).bind fun t134 => (if t134 = true then (if a0.size + a1.size ≤ 9223372036854775807 then ((class_Name.f (a0 ++ a1)).bind fun t135 => (if t135 = true then (if a0.size + 1 ≤ 9223372036854775807 then (if (a0 ++ (⟨#[45]⟩ : ByteArray)).size + a1.size ≤ 9223372036854775807 then ((class_Name.f ((a0 ++ (⟨#[45]⟩ : ByteArray)) ++ a1)).bind fun t136 => (some t136)) else (none)) else (none)) else (some false))) else (none)) else (some true))) = some r := by rw [if_pos rfl] at H; exact H
                      clear H
                      have H := H1
                      clear H1
                      replace H := Option.bind_eq_some_iff.mp H
                      obtain ⟨t134, A600, H⟩ := H
                      replace H : (if t134 = true then (if a0.size + a1.size ≤ 9223372036854775807 then ((class_Name.f (a0 ++ a1)).bind fun t135 => (if t135 = true then (if a0.size + 1 ≤ 9223372036854775807 then (if (a0 ++ (⟨#[45]⟩ : ByteArray)).size + a1.size ≤ 9223372036854775807 then ((class_Name.f ((a0 ++ (⟨#[45]⟩ : ByteArray)) ++ a1)).bind fun t136 => (some t136)) else (none)) else (none)) else (some false))) else (none)) else (some true)) = some r := H
                      have A60 := Aside0.mk A600
                      clear A600
                      by_cases c61 : t134 = true
                      · subst c61
                        have H1 : (if a0.size + a1.size ≤ 9223372036854775807 then ((class_Name.f (a0 ++ a1)).bind fun t135 => (if t135 = true then (if a0.size + 1 ≤ 9223372036854775807 then (if (a0 ++ (⟨#[45]⟩ : ByteArray)).size + a1.size ≤ 9223372036854775807 then ((class_Name.f ((a0 ++ (⟨#[45]⟩ : ByteArray)) ++ a1)).bind fun t136 => (some t136)) else (none)) else (none)) else (some false))) else (none)) = some r := by rw [if_pos rfl] at H; exact H
                        clear H
                        have H := H1
                        clear H1
                        by_cases c62 : a0.size + a1.size ≤ 9223372036854775807
                        · rw [if_pos c62] at H
                          have c62b0 := eq_true c62
                          have c62b1 : decide (a0.size + a1.size ≤ 9223372036854775807) = true := decide_eq_true c62
                          try have c62b2 : (9223372036854775807 < a0.size + a1.size) = False := eq_false (Nat.not_lt.2 c62)
                          replace H := Option.bind_eq_some_iff.mp H
                          obtain ⟨t135, A630, H⟩ := H
                          replace H : (if t135 = true then (if a0.size + 1 ≤ 9223372036854775807 then (if (a0 ++ (⟨#[45]⟩ : ByteArray)).size + a1.size ≤ 9223372036854775807 then ((class_Name.f ((a0 ++ (⟨#[45]⟩ : ByteArray)) ++ a1)).bind fun t136 => (some t136)) else (none)) else (none)) else (some false)) = some r := H
                          have A63 := Aside0.mk A630
                          clear A630
                          by_cases c64 : t135 = true
                          · subst c64
                            have H1 : (if a0.size + 1 ≤ 9223372036854775807 then (if (a0 ++ (⟨#[45]⟩ : ByteArray)).size + a1.size ≤ 9223372036854775807 then ((class_Name.f ((a0 ++ (⟨#[45]⟩ : ByteArray)) ++ a1)).bind fun t136 => (some t136)) else (none)) else (none)) = some r := by rw [if_pos rfl] at H; exact H
                            clear H
                            have H := H1
                            clear H1
                            by_cases c65 : a0.size + 1 ≤ 9223372036854775807
                            · rw [if_pos c65] at H
                              have c65b0 := eq_true c65
                              have c65b1 : decide (a0.size + 1 ≤ 9223372036854775807) = true := decide_eq_true c65
                              try have c65b2 : (9223372036854775807 < a0.size + 1) = False := eq_false (Nat.not_lt.2 c65)
                              by_cases c66 : (a0 ++ (⟨#[45]⟩ : ByteArray)).size + a1.size ≤ 9223372036854775807
                              · rw [if_pos c66] at H
                                have c66b0 := eq_true c66
                                have c66b1 : decide ((a0 ++ (⟨#[45]⟩ : ByteArray)).size + a1.size ≤ 9223372036854775807) = true := decide_eq_true c66
                                try have c66b2 : (9223372036854775807 < (a0 ++ (⟨#[45]⟩ : ByteArray)).size + a1.size) = False := eq_false (Nat.not_lt.2 c66)
                                replace H := Option.bind_eq_some_iff.mp H
                                obtain ⟨t136, A670, H⟩ := H
                                replace H : (some t136) = some r := H
                                have A67 := Aside0.mk A670
                                clear A670
                                obtain rfl := Option.some.inj H
                                go_wp2_with (first | ((with_reducible refine gate_callee (f := 26) rfl ?_); refine goesL_ (some 72) rfl rfl Tryd.func26 (by kernel_rfl) rfl #[.string a0] rfl (by (try simp only [List.map_toArray, List.map_cons, List.map_nil]); first | done | rfl | (simp only [List.length_drop, List.length_take]; rfl)) ?_; (with_reducible refine (class_Name.calls a0 true _ A58.out).mono ?_); rintro e w68 ⟨rfl, hb⟩; refine ⟨_, rfl, ?_⟩; have n0_ := Aside0.mk (below_step (by repeat (first | (with_reducible first | exact HB.out | apply below_alloc | apply pw_below_drewN | apply below_drew1) | exact HB.out)) hb); clear HB; have HB := n0_; clear n0_; (try clear hb); (try clear hb2); (try clear hk); (try clear hi)) | (go_at_call 26; (with_reducible refine (class_Name.calls a1 true _ A60.out).mono ?_); rintro e w69 ⟨rfl, hb⟩; have n0_ := Aside0.mk (below_step (by repeat (first | (with_reducible first | exact HB.out | apply below_alloc | apply pw_below_drewN | apply below_drew1) | exact HB.out)) hb); clear HB; have HB := n0_; clear n0_; (try clear hb); (try clear hb2); (try clear hk); (try clear hi)) | (go_at_call 26; (with_reducible refine (class_Name.calls (a0 ++ a1) true _ A63.out).mono ?_); rintro e w70 ⟨rfl, hb⟩; have n0_ := Aside0.mk (below_step (by repeat (first | (with_reducible first | exact HB.out | apply below_alloc | apply pw_below_drewN | apply below_drew1) | exact HB.out)) hb); clear HB; have HB := n0_; clear n0_; (try clear hb); (try clear hb2); (try clear hk); (try clear hi)) | (go_at_call 26; (with_reducible refine (class_Name.calls ((a0 ++ (⟨#[45]⟩ : ByteArray)) ++ a1) t136 _ A67.out).mono ?_); rintro e w71 ⟨rfl, hb⟩; have n0_ := Aside0.mk (below_step (by repeat (first | (with_reducible first | exact HB.out | apply below_alloc | apply pw_below_drewN | apply below_drew1) | exact HB.out)) hb); clear HB; have HB := n0_; clear n0_; (try clear hb); (try clear hb2); (try clear hk); (try clear hi)))
                                go_ret
                                exact ⟨by first | rfl | (simp [errW_none, errW_some] <;> rfl) | (simp [*, errW_none, errW_some] <;> rfl), by repeat (first | (with_reducible first | exact HB.out | apply below_alloc | apply pw_below_drewN | apply below_drew1) | exact HB.out)⟩
                              · rw [if_neg c66] at H
                                exact absurd H (by simp)
                            · rw [if_neg c65] at H
                              exact absurd H (by simp)
                          · replace c64 := Bool.eq_false_iff.mpr c64
                            subst c64
                            have H1 : (some false) = some r := by rw [if_neg (show ¬ (false = true) by decide)] at H; exact H
                            clear H
                            have H := H1
                            clear H1
                            obtain rfl := Option.some.inj H
                            go_wp2_with (first | ((with_reducible refine gate_callee (f := 26) rfl ?_); refine goesL_ (some 72) rfl rfl Tryd.func26 (by kernel_rfl) rfl #[.string a0] rfl (by (try simp only [List.map_toArray, List.map_cons, List.map_nil]); first | done | rfl | (simp only [List.length_drop, List.length_take]; rfl)) ?_; (with_reducible refine (class_Name.calls a0 true _ A58.out).mono ?_); rintro e w72 ⟨rfl, hb⟩; refine ⟨_, rfl, ?_⟩; have n0_ := Aside0.mk (below_step (by repeat (first | (with_reducible first | exact HB.out | apply below_alloc | apply pw_below_drewN | apply below_drew1) | exact HB.out)) hb); clear HB; have HB := n0_; clear n0_; (try clear hb); (try clear hb2); (try clear hk); (try clear hi)) | (go_at_call 26; (with_reducible refine (class_Name.calls a1 true _ A60.out).mono ?_); rintro e w73 ⟨rfl, hb⟩; have n0_ := Aside0.mk (below_step (by repeat (first | (with_reducible first | exact HB.out | apply below_alloc | apply pw_below_drewN | apply below_drew1) | exact HB.out)) hb); clear HB; have HB := n0_; clear n0_; (try clear hb); (try clear hb2); (try clear hk); (try clear hi)) | (go_at_call 26; (with_reducible refine (class_Name.calls (a0 ++ a1) false _ A63.out).mono ?_); rintro e w74 ⟨rfl, hb⟩; have n0_ := Aside0.mk (below_step (by repeat (first | (with_reducible first | exact HB.out | apply below_alloc | apply pw_below_drewN | apply below_drew1) | exact HB.out)) hb); clear HB; have HB := n0_; clear n0_; (try clear hb); (try clear hb2); (try clear hk); (try clear hi)))
                            go_ret
                            exact ⟨by first | rfl | (simp [errW_none, errW_some] <;> rfl) | (simp [*, errW_none, errW_some] <;> rfl), by repeat (first | (with_reducible first | exact HB.out | apply below_alloc | apply pw_below_drewN | apply below_drew1) | exact HB.out)⟩
                        · rw [if_neg c62] at H
                          exact absurd H (by simp)
                      · replace c61 := Bool.eq_false_iff.mpr c61
                        subst c61
                        have H1 : (some true) = some r := by rw [if_neg (show ¬ (false = true) by decide)] at H; exact H
                        clear H
                        have H := H1
                        clear H1
                        obtain rfl := Option.some.inj H
                        go_wp2_with (first | ((with_reducible refine gate_callee (f := 26) rfl ?_); refine goesL_ (some 72) rfl rfl Tryd.func26 (by kernel_rfl) rfl #[.string a0] rfl (by (try simp only [List.map_toArray, List.map_cons, List.map_nil]); first | done | rfl | (simp only [List.length_drop, List.length_take]; rfl)) ?_; (with_reducible refine (class_Name.calls a0 true _ A58.out).mono ?_); rintro e w75 ⟨rfl, hb⟩; refine ⟨_, rfl, ?_⟩; have n0_ := Aside0.mk (below_step (by repeat (first | (with_reducible first | exact HB.out | apply below_alloc | apply pw_below_drewN | apply below_drew1) | exact HB.out)) hb); clear HB; have HB := n0_; clear n0_; (try clear hb); (try clear hb2); (try clear hk); (try clear hi)) | (go_at_call 26; (with_reducible refine (class_Name.calls a1 false _ A60.out).mono ?_); rintro e w76 ⟨rfl, hb⟩; have n0_ := Aside0.mk (below_step (by repeat (first | (with_reducible first | exact HB.out | apply below_alloc | apply pw_below_drewN | apply below_drew1) | exact HB.out)) hb); clear HB; have HB := n0_; clear n0_; (try clear hb); (try clear hb2); (try clear hk); (try clear hi)))
                        go_ret
                        exact ⟨by first | rfl | (simp [errW_none, errW_some] <;> rfl) | (simp [*, errW_none, errW_some] <;> rfl), by repeat (first | (with_reducible first | exact HB.out | apply below_alloc | apply pw_below_drewN | apply below_drew1) | exact HB.out)⟩
                    · replace c59 := Bool.eq_false_iff.mpr c59
                      subst c59
                      have H1 : (some true) = some r := by rw [if_neg (show ¬ (false = true) by decide)] at H; exact H
                      clear H
                      have H := H1
                      clear H1
                      obtain rfl := Option.some.inj H
                      go_wp2_with (first | ((with_reducible refine gate_callee (f := 26) rfl ?_); refine goesL_ (some 72) rfl rfl Tryd.func26 (by kernel_rfl) rfl #[.string a0] rfl (by (try simp only [List.map_toArray, List.map_cons, List.map_nil]); first | done | rfl | (simp only [List.length_drop, List.length_take]; rfl)) ?_; (with_reducible refine (class_Name.calls a0 false _ A58.out).mono ?_); rintro e w77 ⟨rfl, hb⟩; refine ⟨_, rfl, ?_⟩; have n0_ := Aside0.mk (below_step (by repeat (first | (with_reducible first | exact HB.out | apply below_alloc | apply pw_below_drewN | apply below_drew1) | exact HB.out)) hb); clear HB; have HB := n0_; clear n0_; (try clear hb); (try clear hb2); (try clear hk); (try clear hi)))
                      go_ret
                      exact ⟨by first | rfl | (simp [errW_none, errW_some] <;> rfl) | (simp [*, errW_none, errW_some] <;> rfl), by repeat (first | (with_reducible first | exact HB.out | apply below_alloc | apply pw_below_drewN | apply below_drew1) | exact HB.out)⟩

/-- THE ONE PURE STATEMENT of decanterlaw03_ClassLaws: yours. -/
def decanterlaw03_ClassLaws.Pure : Prop := ∀ (a0 : ByteArray) (a1 : ByteArray), a0.size ≤ 140737488351232 → a1.size ≤ 140737488351232 → ∃ k, decanterlaw03_ClassLaws.f k a0 a1 = some true
theorem decanterlaw03_ClassLaws.walk (P : decanterlaw03_ClassLaws.Pure) (a0 : ByteArray) (a1 : ByteArray) (w : World) (w0 : a0.size ≤ 140737488351232) (w1 : a1.size ≤ 140737488351232) :
    Calls Tryd.prog 10 #[.string a0, .string a1] w fun e w' => e = .returned (.bool true) ∧ Below w.heap.size w w' := by
  obtain ⟨k, h⟩ := P a0 a1 w0 w1
  refine (decanterlaw03_ClassLaws.calls k a0 a1 true w h).mono ?_
  rintro e w' ⟨rfl, hd⟩
  exact ⟨rfl, hd⟩

end Go.Proofs.YtinjbabmpnljoaaDoor.PClassT
