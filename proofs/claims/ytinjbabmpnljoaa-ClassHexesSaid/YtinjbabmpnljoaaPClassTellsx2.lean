-- Laid by a program of this session (tools/patch_print.py) out of the translation. Not trusted: Lean checks it.
import Derived.Test.YtinjbabmpnljoaaPClassTellsx0
import Derived.Test.YtinjbabmpnljoaaPClassTellsx1
namespace Go.Proofs.Ytinjbabmpnljoaa.PClassTells
open Go.RowKit Go.Proofs.YtinjbabmpnljoaaW.PrintWords Go.Proofs.YtinjbabmpnljoaaW.PrintLast Go.Proofs.YtinjbabmpnljoaaW.PrintMore
attribute [local go_sem] max2_int min2_int max_two min_two max_three min_three max_four min_four   -- for this text's walks alone
set_option linter.unusedVariables false
set_option linter.unusedSimpArgs false

/-! ### decanterref03_Hex: function 15 -/
def decanterref03_Hex.j0 : Nat → Int → Bool → Option (Int)
  | 0, _, _ => none
  | k + 1, x0, x12 => if x12 = true then (some (wrap64 (x0 - 87))) else (if x0 ≥ 65 then (if x0 ≤ 70 then (some (wrap64 (x0 - 55))) else (some (-1))) else (some (-1)))
def decanterref03_Hex.f (k : Nat) (a0 : Int) : Option (Int) := (decanterref03_Digit.f a0).bind fun t110 => (if t110 = true then (some (wrap64 (a0 - 48))) else (if a0 ≥ 97 then (decanterref03_Hex.j0 k a0 (decide (a0 ≤ 102))) else (decanterref03_Hex.j0 k a0 false)))
theorem decanterref03_Hex.mono_l : ∀ k, (∀ y0 y1, LeO (decanterref03_Hex.j0 k y0 y1) (decanterref03_Hex.j0 (k + 1) y0 y1))
  | 0 => fun _ _ r h => by simp [decanterref03_Hex.j0] at h
  | k + 1 => by
    have ih0 := decanterref03_Hex.mono_l k
    · intro y0 y1
      unfold decanterref03_Hex.j0
      repeat' first
      | (with_reducible exact ih0 _ _)
      | (with_reducible exact LeO.refl _)
      | (with_reducible exact LeO.none _)
      | (with_reducible refine LeO.ite ?_ ?_)
      | (with_reducible refine LeO.bind ?_ (fun _ => ?_))
      | exact ih0 _ _
      | exact LeO.none _
      | refine LeO.ite ?_ ?_
      | refine LeO.bind ?_ (fun _ => ?_)
theorem decanterref03_Hex.mono : ∀ a0 k, LeO (decanterref03_Hex.f k a0) (decanterref03_Hex.f (k + 1) a0) := by
  intro a0 k
  have ih0 := decanterref03_Hex.mono_l k
  unfold decanterref03_Hex.f
  repeat' first
      | (with_reducible exact ih0 _ _)
      | (with_reducible exact LeO.refl _)
      | (with_reducible exact LeO.none _)
      | (with_reducible refine LeO.ite ?_ ?_)
      | (with_reducible refine LeO.bind ?_ (fun _ => ?_))
      | exact ih0 _ _
      | exact LeO.none _
      | refine LeO.ite ?_ ?_
      | refine LeO.bind ?_ (fun _ => ?_)
set_option maxHeartbeats 8000000 in
set_option maxRecDepth 100000 in
theorem decanterref03_Hex.calls (k : Nat) (a0 : Int) (r : Int) (w : World) (h : decanterref03_Hex.f k a0 = some r) :
    Calls Try.prog 15 #[.int .i64 a0] w fun e w' => e = .returned (.int .i64 r) ∧ Drawn0 w w' := by
  have H : ((decanterref03_Digit.f a0).bind fun t110 => (if t110 = true then (some (wrap64 (a0 - 48))) else (if a0 ≥ 97 then (decanterref03_Hex.j0 k a0 (decide (a0 ≤ 102))) else (decanterref03_Hex.j0 k a0 false)))) = some r := h
  clear h
  replace H := Option.bind_eq_some_iff.mp H
  obtain ⟨t110, A20, H⟩ := H
  replace H : (if t110 = true then (some (wrap64 (a0 - 48))) else (if a0 ≥ 97 then (decanterref03_Hex.j0 k a0 (decide (a0 ≤ 102))) else (decanterref03_Hex.j0 k a0 false))) = some r := H
  have A2 := Aside0.mk A20
  clear A20
  by_cases c3 : t110 = true
  · subst c3
    have H1 : (some (wrap64 (a0 - 48))) = some r := by rw [if_pos rfl] at H; exact H
    clear H
    have H := H1
    clear H1
    obtain rfl := Option.some.inj H
    go_enter Try.func15, Try.ntmps15
    go_wp2_with (first | ((with_reducible refine gate_callee (f := 12) rfl ?_); refine goesL_ (some 4) rfl rfl Try.func12 (by kernel_rfl) rfl #[.int .i64 a0] rfl (by (try simp only [List.map_toArray, List.map_cons, List.map_nil]); first | done | rfl | (simp only [List.length_drop, List.length_take]; rfl)) ?_; (with_reducible refine (decanterref03_Digit.calls a0 true _ A2.out).mono ?_); rintro e w' ⟨rfl, ⟨nd, rfl⟩⟩; refine ⟨_, rfl, ?_⟩))
    go_ret
    exact ⟨by first | rfl | (simp; done) | (simp [*]; done), by repeat (first | exact Drawn0.refl _ | apply Drawn0.step)⟩
  · replace c3 := Bool.eq_false_iff.mpr c3
    subst c3
    have H1 : (if a0 ≥ 97 then (decanterref03_Hex.j0 k a0 (decide (a0 ≤ 102))) else (decanterref03_Hex.j0 k a0 false)) = some r := by rw [if_neg (show ¬ (false = true) by decide)] at H; exact H
    clear H
    have H := H1
    clear H1
    have HC4 := Aside0.mk H
    clear H
    go_enter Try.func15, Try.ntmps15
    go_upto_region 3 with (first | ((with_reducible refine gate_callee (f := 12) rfl ?_); refine goesL_ (some 4) rfl rfl Try.func12 (by kernel_rfl) rfl #[.int .i64 a0] rfl (by (try simp only [List.map_toArray, List.map_cons, List.map_nil]); first | done | rfl | (simp only [List.length_drop, List.length_take]; rfl)) ?_; (with_reducible refine (decanterref03_Digit.calls a0 false _ A2.out).mono ?_); rintro e w' ⟨rfl, ⟨nd, rfl⟩⟩; refine ⟨_, rfl, ?_⟩))
    (try simp only [Act.put, List.setIfInBounds_toArray, List.set_cons_zero, List.set_cons_succ])
    go_cut [12] (fun v12 wc => ∃ (kq : Nat) (x12_3 : Bool), v12 = .bool x12_3 ∧ Aside0 (decanterref03_Hex.j0 kq a0 x12_3 = some r) ∧ Aside0 (kq ≤ k) ∧ Drawn0 w wc)
    case first =>
      have H := HC4.out
      clear HC4
      by_cases c5 : a0 ≥ 97
      · rw [if_pos c5] at H
        have c5b0 : decide (97 ≤ a0) = true := decide_eq_true c5
        clear c5
        (first | rw [c5b0] | (simp only [i64_w, i32_w]; rw [c5b0]) | skip)
        have H' := Aside0.mk H
        clear H
        go_wp2
        go_meet
        case rel => exact ⟨_, (decide (a0 ≤ 102)), (by first | rfl | (simp; done) | (simp [*]; done)), H', ⟨by first | omega | exact Nat.le_refl _⟩, by repeat (first | exact Drawn0.refl _ | apply Drawn0.step)⟩
      · rw [if_neg c5] at H
        have c5b0 : decide (97 ≤ a0) = false := decide_eq_false c5
        clear c5
        (first | rw [c5b0] | (simp only [i64_w, i32_w]; rw [c5b0]) | skip)
        have H' := Aside0.mk H
        clear H
        go_wp2
        go_meet
        case rel => exact ⟨_, (false), (by first | rfl | (simp; done) | (simp [*]; done)), H', ⟨by first | omega | exact Nat.le_refl _⟩, by repeat (first | exact Drawn0.refl _ | apply Drawn0.step)⟩
    case rest =>
      clear HC4
      try clear c1
      try clear p2
      try clear c3
      try clear c5
      try clear c5b0
      obtain ⟨kq, x12_3, rfl, HA, HJ3, ⟨mc3, rfl⟩⟩ := hcut
      cases kq with
      | zero => exact absurd HA.out (by simp [decanterref03_Hex.j0])
      | succ kj3 =>
        have H := HA.out
        clear HA
        simp only [decanterref03_Hex.j0] at H
        by_cases c6 : x12_3 = true
        · subst c6
          have H1 : (some (wrap64 (a0 - 87))) = some r := by rw [if_pos rfl] at H; exact H
          clear H
          have H := H1
          clear H1
          obtain rfl := Option.some.inj H
          go_wp2
          go_ret
          exact ⟨by first | rfl | (simp; done) | (simp [*]; done), by repeat (first | exact Drawn0.refl _ | apply Drawn0.step)⟩
        · replace c6 := Bool.eq_false_iff.mpr c6
          subst c6
          have H1 : (if a0 ≥ 65 then (if a0 ≤ 70 then (some (wrap64 (a0 - 55))) else (some (-1))) else (some (-1))) = some r := by rw [if_neg (show ¬ (false = true) by decide)] at H; exact H
          clear H
          have H := H1
          clear H1
          by_cases c7 : a0 ≥ 65
          · rw [if_pos c7] at H
            have c7b0 : decide (65 ≤ a0) = true := decide_eq_true c7
            clear c7
            by_cases c8 : a0 ≤ 70
            · rw [if_pos c8] at H
              have c8b0 : decide (a0 ≤ 70) = true := decide_eq_true c8
              clear c8
              obtain rfl := Option.some.inj H
              go_wp2
              go_ret
              exact ⟨by first | rfl | (simp; done) | (simp [*]; done), by repeat (first | exact Drawn0.refl _ | apply Drawn0.step)⟩
            · rw [if_neg c8] at H
              have c8b0 : decide (a0 ≤ 70) = false := decide_eq_false c8
              clear c8
              obtain rfl := Option.some.inj H
              go_wp2
              go_ret
              exact ⟨by first | rfl | (simp; done) | (simp [*]; done), by repeat (first | exact Drawn0.refl _ | apply Drawn0.step)⟩
          · rw [if_neg c7] at H
            have c7b0 : decide (65 ≤ a0) = false := decide_eq_false c7
            clear c7
            obtain rfl := Option.some.inj H
            go_wp2
            go_ret
            exact ⟨by first | rfl | (simp; done) | (simp [*]; done), by repeat (first | exact Drawn0.refl _ | apply Drawn0.step)⟩

/-! ### decanterlaw03_ClassTells: function 3 -/
mutual
def decanterlaw03_ClassTells.l0 : Nat → Int → Int → Option (Bool)
  | 0, _, _ => none
  | k + 1, x0, x3 => if x3 ≤ 256 then (if x3 = 256 then (decanterlaw03_ClassTells.j1 k x0 x3 x0) else (decanterlaw03_ClassTells.j1 k x0 x3 (wrap32 (x3)))) else (some true)
def decanterlaw03_ClassTells.j1 : Nat → Int → Int → Int → Option (Bool)
  | 0, _, _, _ => none
  | k + 1, x0, x3, x4 => (class_Hex.f x4).bind fun bt112 => ((class_Blank.f x4).bind fun t114 => ((decanterref03_Blank.f (wrap64 (x4))).bind fun t115 => (if (t114 != t115) = true then (some false) else ((class_Letter.f x4).bind fun t116 => ((decanterref03_Letter.f (wrap64 (x4))).bind fun t117 => (if (t116 != t117) = true then (some false) else ((class_Digit.f x4).bind fun t118 => ((decanterref03_Digit.f (wrap64 (x4))).bind fun t119 => (if (t118 != t119) = true then (some false) else ((class_Lower.f x4).bind fun t120 => ((decanterref03_Lower.f (wrap64 (x4))).bind fun t121 => (if (wrap64 (t120)) = t121 then ((decanterref03_Hex.f k (wrap64 (x4))).bind fun t122 => (if (bt112.2 != (decide (t122 ≥ 0))) = true then (some false) else ((decanterref03_Hex.f k (wrap64 (x4))).bind fun t123 => (if bt112.1 = (mx t123 0) then (decanterlaw03_ClassTells.l0 k x0 (wrap64 (x3 + 1))) else (some false))))) else (some false)))))))))))))
end
def decanterlaw03_ClassTells.f (k : Nat) (a0 : Int) : Option (Bool) := (decanterlaw03_speaks.f).bind fun t111 => (if t111 = true then (decanterlaw03_ClassTells.l0 k a0 (-1)) else (some false))
theorem decanterlaw03_ClassTells.mono_l : ∀ k, (∀ y0 y1, LeO (decanterlaw03_ClassTells.l0 k y0 y1) (decanterlaw03_ClassTells.l0 (k + 1) y0 y1)) ∧ (∀ y0 y1 y2, LeO (decanterlaw03_ClassTells.j1 k y0 y1 y2) (decanterlaw03_ClassTells.j1 (k + 1) y0 y1 y2))
  | 0 => ⟨fun _ _ r h => by simp [decanterlaw03_ClassTells.l0] at h, fun _ _ _ r h => by simp [decanterlaw03_ClassTells.j1] at h⟩
  | k + 1 => by
    obtain ⟨ih0, ih1⟩ := decanterlaw03_ClassTells.mono_l k
    refine ⟨?_, ?_⟩
    · intro y0 y1
      unfold decanterlaw03_ClassTells.l0
      repeat' first
      | (with_reducible exact ih0 _ _)
      | (with_reducible exact ih1 _ _ _)
      | (with_reducible exact decanterref03_Hex.mono _ _)
      | (with_reducible exact LeO.refl _)
      | (with_reducible exact LeO.none _)
      | (with_reducible refine LeO.ite ?_ ?_)
      | (with_reducible refine LeO.bind ?_ (fun _ => ?_))
      | exact ih0 _ _
      | exact ih1 _ _ _
      | exact decanterref03_Hex.mono _ _
      | exact LeO.none _
      | refine LeO.ite ?_ ?_
      | refine LeO.bind ?_ (fun _ => ?_)
    · intro y0 y1 y2
      unfold decanterlaw03_ClassTells.j1
      repeat' first
      | (with_reducible exact ih0 _ _)
      | (with_reducible exact ih1 _ _ _)
      | (with_reducible exact decanterref03_Hex.mono _ _)
      | (with_reducible exact LeO.refl _)
      | (with_reducible exact LeO.none _)
      | (with_reducible refine LeO.ite ?_ ?_)
      | (with_reducible refine LeO.bind ?_ (fun _ => ?_))
      | exact ih0 _ _
      | exact ih1 _ _ _
      | exact decanterref03_Hex.mono _ _
      | exact LeO.none _
      | refine LeO.ite ?_ ?_
      | refine LeO.bind ?_ (fun _ => ?_)
theorem decanterlaw03_ClassTells.mono : ∀ a0 k, LeO (decanterlaw03_ClassTells.f k a0) (decanterlaw03_ClassTells.f (k + 1) a0) := by
  intro a0 k
  obtain ⟨ih0, ih1⟩ := decanterlaw03_ClassTells.mono_l k
  unfold decanterlaw03_ClassTells.f
  repeat' first
      | (with_reducible exact ih0 _ _)
      | (with_reducible exact ih1 _ _ _)
      | (with_reducible exact decanterref03_Hex.mono _ _)
      | (with_reducible exact LeO.refl _)
      | (with_reducible exact LeO.none _)
      | (with_reducible refine LeO.ite ?_ ?_)
      | (with_reducible refine LeO.bind ?_ (fun _ => ?_))
      | exact ih0 _ _
      | exact ih1 _ _ _
      | exact decanterref03_Hex.mono _ _
      | exact LeO.none _
      | refine LeO.ite ?_ ?_
      | refine LeO.bind ?_ (fun _ => ?_)
set_option maxHeartbeats 8000000 in
set_option maxRecDepth 100000 in
theorem decanterlaw03_ClassTells.calls (k : Nat) (a0 : Int) (r : Bool) (w : World) (h : decanterlaw03_ClassTells.f k a0 = some r) :
    Calls Try.prog 3 #[.int .i32 a0] w fun e w' => e = .returned (.bool r) ∧ Below w.heap.size w w' := by
  have HB := Aside0.mk (Below.refl w.heap.size w)
  have H : ((decanterlaw03_speaks.f).bind fun t111 => (if t111 = true then (decanterlaw03_ClassTells.l0 k a0 (-1)) else (some false))) = some r := h
  clear h
  replace H := Option.bind_eq_some_iff.mp H
  obtain ⟨t111, A20, H⟩ := H
  replace H : (if t111 = true then (decanterlaw03_ClassTells.l0 k a0 (-1)) else (some false)) = some r := H
  have A2 := Aside0.mk A20
  clear A20
  by_cases c3 : t111 = true
  · subst c3
    have H1 : (decanterlaw03_ClassTells.l0 k a0 (-1)) = some r := by rw [if_pos rfl] at H; exact H
    clear H
    have H := H1
    clear H1
    have H' := Aside0.mk H
    clear H
    go_enter Try.func3, Try.ntmps3
    go_wp2_with (first | ((with_reducible refine gate_callee (f := 5) rfl ?_); refine goesL_ (some 8) rfl rfl Try.func5 (by kernel_rfl) rfl #[] rfl (by (try simp only [List.map_toArray, List.map_cons, List.map_nil]); first | done | rfl | (simp only [List.length_drop, List.length_take]; rfl)) ?_; (with_reducible refine (decanterlaw03_speaks.calls  true _ A2.out).mono ?_); rintro e w4 ⟨rfl, hb⟩; refine ⟨_, rfl, ?_⟩; have n0_ := Aside0.mk (below_step (by repeat (first | (with_reducible first | exact HB.out | apply below_alloc | apply pw_below_drewN | apply below_drew1) | exact HB.out)) hb); clear HB; have HB := n0_; clear n0_; (try clear hb); (try clear hb2); (try clear hk); (try clear hi)))
    go_loopg [3] k (fun kq v3 w' => ∃ (x3_1 : Int), v3 = .int .i64 x3_1 ∧ Aside0 (decanterlaw03_ClassTells.l0 kq a0 x3_1 = some r) ∧ Aside0 (kq ≤ k) ∧ Aside0 (Below w.heap.size w w'))
    case atStart => exact ⟨((-1)), (by first | rfl | (simp; done) | (simp [*]; done)), H', ⟨Nat.le_refl _⟩, ⟨by repeat (first | (with_reducible first | exact HB.out | apply below_alloc | apply pw_below_drewN | apply below_drew1) | exact HB.out)⟩⟩
    case round =>
      clear H'
      try clear p2
      try clear c3
      obtain ⟨x3_1, rfl, HA, HK1, HB⟩ := hrel
      cases gk with
      | zero => exact absurd HA.out (by simp [decanterlaw03_ClassTells.l0])
      | succ k1 =>
        have H := HA.out
        clear HA
        simp only [decanterlaw03_ClassTells.l0] at H
        by_cases c5 : x3_1 ≤ 256
        · rw [if_pos c5] at H
          have c5b0 : decide (x3_1 ≤ 256) = true := decide_eq_true c5
          clear c5
          have HC6 := Aside0.mk H
          clear H
          go_upto_if 17 with (fail)
          go_cut [4] (fun v4 wc => ∃ (kq : Nat) (x4_5 : Int), v4 = .int .i32 x4_5 ∧ Aside0 (decanterlaw03_ClassTells.j1 kq a0 x3_1 x4_5 = some r) ∧ Aside0 (kq ≤ k1) ∧ Aside0 (Below w.heap.size w wc))
          case first =>
            have H := HC6.out
            clear HC6
            by_cases c7 : x3_1 = 256
            · rw [if_pos c7] at H
              have c7b0 : (x3_1 == 256) = true := beq_iff_eq.mpr c7
              have c7b1 : (x3_1 != 256) = false := bne_eq_false_iff_eq.mpr c7
              clear c7
              (first | rw [c7b0] | (simp only [i64_w, i32_w]; rw [c7b0]) | skip)
              have H' := Aside0.mk H
              clear H
              go_wp2
              go_meet
              case rel => exact ⟨_, (a0), (by first | rfl | (simp; done) | (simp [*]; done)), H', ⟨by have := HK1.out; first | omega | exact Nat.le_refl _⟩, ⟨by repeat (first | (with_reducible first | exact HB.out | apply below_alloc | apply pw_below_drewN | apply below_drew1) | exact HB.out)⟩⟩
            · rw [if_neg c7] at H
              have c7b0 : (x3_1 == 256) = false := beq_eq_false_iff_ne.mpr c7
              have c7b1 : (x3_1 != 256) = true := bne_iff_ne.mpr c7
              (first | rw [c7b0] | (simp only [i64_w, i32_w]; rw [c7b0]) | skip)
              have H' := Aside0.mk H
              clear H
              go_wp2
              go_meet
              case rel => exact ⟨_, (wrap32 (x3_1)), (by first | rfl | (simp; done) | (simp [*]; done)), H', ⟨by have := HK1.out; first | omega | exact Nat.le_refl _⟩, ⟨by repeat (first | (with_reducible first | exact HB.out | apply below_alloc | apply pw_below_drewN | apply below_drew1) | exact HB.out)⟩⟩
          case rest =>
            clear HC6
            try clear p2
            try clear c3
            try clear p3
            try clear c5
            try clear c5b0
            try clear c7
            try clear c7b0
            try clear c7b1
            try clear p2
            obtain ⟨kq, x4_5, rfl, HA, HJ5, HB⟩ := hcut
            cases kq with
            | zero => exact absurd HA.out (by simp [decanterlaw03_ClassTells.j1])
            | succ kj5 =>
              have H := HA.out
              clear HA
              simp only [decanterlaw03_ClassTells.j1] at H
              replace H := Option.bind_eq_some_iff.mp H
              obtain ⟨⟨t112, t113⟩, A80, H⟩ := H
              replace H : ((class_Blank.f x4_5).bind fun t114 => ((decanterref03_Blank.f (wrap64 (x4_5))).bind fun t115 => (if (t114 != t115) = true then (some false) else ((class_Letter.f x4_5).bind fun t116 => ((decanterref03_Letter.f (wrap64 (x4_5))).bind fun t117 => (if (t116 != t117) = true then (some false) else ((class_Digit.f x4_5).bind fun t118 => ((decanterref03_Digit.f (wrap64 (x4_5))).bind fun t119 => (if (t118 != t119) = true then (some false) else ((class_Lower.f x4_5).bind fun t120 => ((decanterref03_Lower.f (wrap64 (x4_5))).bind fun t121 => (if (wrap64 (t120)) = t121 then ((decanterref03_Hex.f kj5 (wrap64 (x4_5))).bind fun t122 => (if (t113 != (decide (t122 ≥ 0))) = true then (some false) else ((decanterref03_Hex.f kj5 (wrap64 (x4_5))).bind fun t123 => (if t112 = (mx t123 0) then (decanterlaw03_ClassTells.l0 kj5 a0 (wrap64 (x3_1 + 1))) else (some false))))) else (some false))))))))))))) = some r := H
              have A8 := Aside0.mk A80
              clear A80
              replace H := Option.bind_eq_some_iff.mp H
              obtain ⟨t114, A90, H⟩ := H
              replace H : ((decanterref03_Blank.f (wrap64 (x4_5))).bind fun t115 => (if (t114 != t115) = true then (some false) else ((class_Letter.f x4_5).bind fun t116 => ((decanterref03_Letter.f (wrap64 (x4_5))).bind fun t117 => (if (t116 != t117) = true then (some false) else ((class_Digit.f x4_5).bind fun t118 => ((decanterref03_Digit.f (wrap64 (x4_5))).bind fun t119 => (if (t118 != t119) = true then (some false) else ((class_Lower.f x4_5).bind fun t120 => ((decanterref03_Lower.f (wrap64 (x4_5))).bind fun t121 => (if (wrap64 (t120)) = t121 then ((decanterref03_Hex.f kj5 (wrap64 (x4_5))).bind fun t122 => (if (t113 != (decide (t122 ≥ 0))) = true then (some false) else ((decanterref03_Hex.f kj5 (wrap64 (x4_5))).bind fun t123 => (if t112 = (mx t123 0) then (decanterlaw03_ClassTells.l0 kj5 a0 (wrap64 (x3_1 + 1))) else (some false))))) else (some false)))))))))))) = some r := H
              have A9 := Aside0.mk A90
              clear A90
              replace H := Option.bind_eq_some_iff.mp H
              obtain ⟨t115, A100, H⟩ := H
              replace H : (if (t114 != t115) = true then (some false) else ((class_Letter.f x4_5).bind fun t116 => ((decanterref03_Letter.f (wrap64 (x4_5))).bind fun t117 => (if (t116 != t117) = true then (some false) else ((class_Digit.f x4_5).bind fun t118 => ((decanterref03_Digit.f (wrap64 (x4_5))).bind fun t119 => (if (t118 != t119) = true then (some false) else ((class_Lower.f x4_5).bind fun t120 => ((decanterref03_Lower.f (wrap64 (x4_5))).bind fun t121 => (if (wrap64 (t120)) = t121 then ((decanterref03_Hex.f kj5 (wrap64 (x4_5))).bind fun t122 => (if (t113 != (decide (t122 ≥ 0))) = true then (some false) else ((decanterref03_Hex.f kj5 (wrap64 (x4_5))).bind fun t123 => (if t112 = (mx t123 0) then (decanterlaw03_ClassTells.l0 kj5 a0 (wrap64 (x3_1 + 1))) else (some false))))) else (some false))))))))))) = some r := H
              have A10 := Aside0.mk A100
              clear A100
              by_cases c11 : (t114 != t115) = true
              · rw [if_pos c11] at H
                have c11b0 : (t114 != t115) = true := c11
                (try (have c11b1 : decide (t114 = t115) = false := by simpa using c11))
                (try (have c11b2 : (t114 == t115) = false := by simpa using c11))
                (try (have c11b3 : ¬ (t114 = t115) := by simpa using c11))
                clear c11
                obtain rfl := Option.some.inj H
                go_wp2_with (first | ((with_reducible refine gate_callee (f := 6) rfl ?_); refine goesL_ (some 23) rfl rfl Try.func6 (by kernel_rfl) rfl #[.int .i32 x4_5] rfl (by (try simp only [List.map_toArray, List.map_cons, List.map_nil]); first | done | rfl | (simp only [List.length_drop, List.length_take]; rfl)) ?_; (with_reducible refine (class_Hex.calls x4_5 t112 t113 _ A8.out).mono ?_); rintro e w' ⟨rfl, ⟨nd, rfl⟩⟩; refine ⟨_, rfl, ?_⟩) | ((with_reducible refine gate_callee (f := 7) rfl ?_); refine goesL_ (some 27) rfl rfl Try.func7 (by kernel_rfl) rfl #[.int .i32 x4_5] rfl (by (try simp only [List.map_toArray, List.map_cons, List.map_nil]); first | done | rfl | (simp only [List.length_drop, List.length_take]; rfl)) ?_; (with_reducible refine (class_Blank.calls x4_5 t114 _ A9.out).mono ?_); rintro e w12 ⟨rfl, hb⟩; refine ⟨_, rfl, ?_⟩; have n0_ := Aside0.mk (below_step (by repeat (first | (with_reducible first | exact HB.out | apply below_alloc | apply pw_below_drewN | apply below_drew1) | exact HB.out)) hb); clear HB; have HB := n0_; clear n0_; (try clear hb); (try clear hb2); (try clear hk); (try clear hi)) | ((with_reducible refine gate_callee (f := 8) rfl ?_); refine goesL_ (some 29) rfl rfl Try.func8 (by kernel_rfl) rfl #[.int .i64 (wrap64 (x4_5))] rfl (by (try simp only [List.map_toArray, List.map_cons, List.map_nil]); first | done | rfl | (simp only [List.length_drop, List.length_take]; rfl)) ?_; (with_reducible refine (decanterref03_Blank.calls (wrap64 (x4_5)) t115 _ A10.out).mono ?_); rintro e w' ⟨rfl, ⟨nd, rfl⟩⟩; refine ⟨_, rfl, ?_⟩))
                go_ret
                exact ⟨by first | rfl | (simp [errW_none, errW_some] <;> rfl) | (simp [*, errW_none, errW_some] <;> rfl), by repeat (first | (with_reducible first | exact HB.out | apply below_alloc | apply pw_below_drewN | apply below_drew1) | exact HB.out)⟩
              · rw [if_neg c11] at H
                have c11b0 : (t114 != t115) = false := by simpa using c11
                (try (have c11b1 : decide (t114 = t115) = true := by simpa using c11))
                (try (have c11b2 : (t114 == t115) = true := by simpa using c11))
                clear c11
                replace H := Option.bind_eq_some_iff.mp H
                obtain ⟨t116, A130, H⟩ := H
                replace H : ((decanterref03_Letter.f (wrap64 (x4_5))).bind fun t117 => (if (t116 != t117) = true then (some false) else ((class_Digit.f x4_5).bind fun t118 => ((decanterref03_Digit.f (wrap64 (x4_5))).bind fun t119 => (if (t118 != t119) = true then (some false) else ((class_Lower.f x4_5).bind fun t120 => ((decanterref03_Lower.f (wrap64 (x4_5))).bind fun t121 => (if (wrap64 (t120)) = t121 then ((decanterref03_Hex.f kj5 (wrap64 (x4_5))).bind fun t122 => (if (t113 != (decide (t122 ≥ 0))) = true then (some false) else ((decanterref03_Hex.f kj5 (wrap64 (x4_5))).bind fun t123 => (if t112 = (mx t123 0) then (decanterlaw03_ClassTells.l0 kj5 a0 (wrap64 (x3_1 + 1))) else (some false))))) else (some false))))))))) = some r := H
                have A13 := Aside0.mk A130
                clear A130
                replace H := Option.bind_eq_some_iff.mp H
                obtain ⟨t117, A140, H⟩ := H
                replace H : (if (t116 != t117) = true then (some false) else ((class_Digit.f x4_5).bind fun t118 => ((decanterref03_Digit.f (wrap64 (x4_5))).bind fun t119 => (if (t118 != t119) = true then (some false) else ((class_Lower.f x4_5).bind fun t120 => ((decanterref03_Lower.f (wrap64 (x4_5))).bind fun t121 => (if (wrap64 (t120)) = t121 then ((decanterref03_Hex.f kj5 (wrap64 (x4_5))).bind fun t122 => (if (t113 != (decide (t122 ≥ 0))) = true then (some false) else ((decanterref03_Hex.f kj5 (wrap64 (x4_5))).bind fun t123 => (if t112 = (mx t123 0) then (decanterlaw03_ClassTells.l0 kj5 a0 (wrap64 (x3_1 + 1))) else (some false))))) else (some false)))))))) = some r := H
                have A14 := Aside0.mk A140
                clear A140
                by_cases c15 : (t116 != t117) = true
                · rw [if_pos c15] at H
                  have c15b0 : (t116 != t117) = true := c15
                  (try (have c15b1 : decide (t116 = t117) = false := by simpa using c15))
                  (try (have c15b2 : (t116 == t117) = false := by simpa using c15))
                  (try (have c15b3 : ¬ (t116 = t117) := by simpa using c15))
                  clear c15
                  obtain rfl := Option.some.inj H
                  go_wp2_with (first | ((with_reducible refine gate_callee (f := 6) rfl ?_); refine goesL_ (some 23) rfl rfl Try.func6 (by kernel_rfl) rfl #[.int .i32 x4_5] rfl (by (try simp only [List.map_toArray, List.map_cons, List.map_nil]); first | done | rfl | (simp only [List.length_drop, List.length_take]; rfl)) ?_; (with_reducible refine (class_Hex.calls x4_5 t112 t113 _ A8.out).mono ?_); rintro e w' ⟨rfl, ⟨nd, rfl⟩⟩; refine ⟨_, rfl, ?_⟩) | ((with_reducible refine gate_callee (f := 7) rfl ?_); refine goesL_ (some 27) rfl rfl Try.func7 (by kernel_rfl) rfl #[.int .i32 x4_5] rfl (by (try simp only [List.map_toArray, List.map_cons, List.map_nil]); first | done | rfl | (simp only [List.length_drop, List.length_take]; rfl)) ?_; (with_reducible refine (class_Blank.calls x4_5 t114 _ A9.out).mono ?_); rintro e w16 ⟨rfl, hb⟩; refine ⟨_, rfl, ?_⟩; have n0_ := Aside0.mk (below_step (by repeat (first | (with_reducible first | exact HB.out | apply below_alloc | apply pw_below_drewN | apply below_drew1) | exact HB.out)) hb); clear HB; have HB := n0_; clear n0_; (try clear hb); (try clear hb2); (try clear hk); (try clear hi)) | ((with_reducible refine gate_callee (f := 8) rfl ?_); refine goesL_ (some 29) rfl rfl Try.func8 (by kernel_rfl) rfl #[.int .i64 (wrap64 (x4_5))] rfl (by (try simp only [List.map_toArray, List.map_cons, List.map_nil]); first | done | rfl | (simp only [List.length_drop, List.length_take]; rfl)) ?_; (with_reducible refine (decanterref03_Blank.calls (wrap64 (x4_5)) t115 _ A10.out).mono ?_); rintro e w' ⟨rfl, ⟨nd, rfl⟩⟩; refine ⟨_, rfl, ?_⟩) | (go_at_call 9; (with_reducible refine (class_Letter.calls x4_5 t116 _ A13.out).mono ?_); rintro e w' ⟨rfl, ⟨nd, rfl⟩⟩) | (go_at_call 10; (with_reducible refine (decanterref03_Letter.calls (wrap64 (x4_5)) t117 _ A14.out).mono ?_); rintro e w' ⟨rfl, ⟨nd, rfl⟩⟩))
                  go_ret
                  exact ⟨by first | rfl | (simp [errW_none, errW_some] <;> rfl) | (simp [*, errW_none, errW_some] <;> rfl), by repeat (first | (with_reducible first | exact HB.out | apply below_alloc | apply pw_below_drewN | apply below_drew1) | exact HB.out)⟩
                · rw [if_neg c15] at H
                  have c15b0 : (t116 != t117) = false := by simpa using c15
                  (try (have c15b1 : decide (t116 = t117) = true := by simpa using c15))
                  (try (have c15b2 : (t116 == t117) = true := by simpa using c15))
                  clear c15
                  replace H := Option.bind_eq_some_iff.mp H
                  obtain ⟨t118, A170, H⟩ := H
                  replace H : ((decanterref03_Digit.f (wrap64 (x4_5))).bind fun t119 => (if (t118 != t119) = true then (some false) else ((class_Lower.f x4_5).bind fun t120 => ((decanterref03_Lower.f (wrap64 (x4_5))).bind fun t121 => (if (wrap64 (t120)) = t121 then ((decanterref03_Hex.f kj5 (wrap64 (x4_5))).bind fun t122 => (if (t113 != (decide (t122 ≥ 0))) = true then (some false) else ((decanterref03_Hex.f kj5 (wrap64 (x4_5))).bind fun t123 => (if t112 = (mx t123 0) then (decanterlaw03_ClassTells.l0 kj5 a0 (wrap64 (x3_1 + 1))) else (some false))))) else (some false)))))) = some r := H
                  have A17 := Aside0.mk A170
                  clear A170
                  replace H := Option.bind_eq_some_iff.mp H
                  obtain ⟨t119, A180, H⟩ := H
                  replace H : (if (t118 != t119) = true then (some false) else ((class_Lower.f x4_5).bind fun t120 => ((decanterref03_Lower.f (wrap64 (x4_5))).bind fun t121 => (if (wrap64 (t120)) = t121 then ((decanterref03_Hex.f kj5 (wrap64 (x4_5))).bind fun t122 => (if (t113 != (decide (t122 ≥ 0))) = true then (some false) else ((decanterref03_Hex.f kj5 (wrap64 (x4_5))).bind fun t123 => (if t112 = (mx t123 0) then (decanterlaw03_ClassTells.l0 kj5 a0 (wrap64 (x3_1 + 1))) else (some false))))) else (some false))))) = some r := H
                  have A18 := Aside0.mk A180
                  clear A180
                  by_cases c19 : (t118 != t119) = true
                  · rw [if_pos c19] at H
                    have c19b0 : (t118 != t119) = true := c19
                    (try (have c19b1 : decide (t118 = t119) = false := by simpa using c19))
                    (try (have c19b2 : (t118 == t119) = false := by simpa using c19))
                    (try (have c19b3 : ¬ (t118 = t119) := by simpa using c19))
                    clear c19
                    obtain rfl := Option.some.inj H
                    go_wp2_with (first | ((with_reducible refine gate_callee (f := 6) rfl ?_); refine goesL_ (some 23) rfl rfl Try.func6 (by kernel_rfl) rfl #[.int .i32 x4_5] rfl (by (try simp only [List.map_toArray, List.map_cons, List.map_nil]); first | done | rfl | (simp only [List.length_drop, List.length_take]; rfl)) ?_; (with_reducible refine (class_Hex.calls x4_5 t112 t113 _ A8.out).mono ?_); rintro e w' ⟨rfl, ⟨nd, rfl⟩⟩; refine ⟨_, rfl, ?_⟩) | ((with_reducible refine gate_callee (f := 7) rfl ?_); refine goesL_ (some 27) rfl rfl Try.func7 (by kernel_rfl) rfl #[.int .i32 x4_5] rfl (by (try simp only [List.map_toArray, List.map_cons, List.map_nil]); first | done | rfl | (simp only [List.length_drop, List.length_take]; rfl)) ?_; (with_reducible refine (class_Blank.calls x4_5 t114 _ A9.out).mono ?_); rintro e w20 ⟨rfl, hb⟩; refine ⟨_, rfl, ?_⟩; have n0_ := Aside0.mk (below_step (by repeat (first | (with_reducible first | exact HB.out | apply below_alloc | apply pw_below_drewN | apply below_drew1) | exact HB.out)) hb); clear HB; have HB := n0_; clear n0_; (try clear hb); (try clear hb2); (try clear hk); (try clear hi)) | ((with_reducible refine gate_callee (f := 8) rfl ?_); refine goesL_ (some 29) rfl rfl Try.func8 (by kernel_rfl) rfl #[.int .i64 (wrap64 (x4_5))] rfl (by (try simp only [List.map_toArray, List.map_cons, List.map_nil]); first | done | rfl | (simp only [List.length_drop, List.length_take]; rfl)) ?_; (with_reducible refine (decanterref03_Blank.calls (wrap64 (x4_5)) t115 _ A10.out).mono ?_); rintro e w' ⟨rfl, ⟨nd, rfl⟩⟩; refine ⟨_, rfl, ?_⟩) | (go_at_call 9; (with_reducible refine (class_Letter.calls x4_5 t116 _ A13.out).mono ?_); rintro e w' ⟨rfl, ⟨nd, rfl⟩⟩) | (go_at_call 10; (with_reducible refine (decanterref03_Letter.calls (wrap64 (x4_5)) t117 _ A14.out).mono ?_); rintro e w' ⟨rfl, ⟨nd, rfl⟩⟩) | (go_at_call 11; (with_reducible refine (class_Digit.calls x4_5 t118 _ A17.out).mono ?_); rintro e w' ⟨rfl, ⟨nd, rfl⟩⟩) | (go_at_call 12; (with_reducible refine (decanterref03_Digit.calls (wrap64 (x4_5)) t119 _ A18.out).mono ?_); rintro e w' ⟨rfl, ⟨nd, rfl⟩⟩))
                    go_ret
                    exact ⟨by first | rfl | (simp [errW_none, errW_some] <;> rfl) | (simp [*, errW_none, errW_some] <;> rfl), by repeat (first | (with_reducible first | exact HB.out | apply below_alloc | apply pw_below_drewN | apply below_drew1) | exact HB.out)⟩
                  · rw [if_neg c19] at H
                    have c19b0 : (t118 != t119) = false := by simpa using c19
                    (try (have c19b1 : decide (t118 = t119) = true := by simpa using c19))
                    (try (have c19b2 : (t118 == t119) = true := by simpa using c19))
                    clear c19
                    replace H := Option.bind_eq_some_iff.mp H
                    obtain ⟨t120, A210, H⟩ := H
                    replace H : ((decanterref03_Lower.f (wrap64 (x4_5))).bind fun t121 => (if (wrap64 (t120)) = t121 then ((decanterref03_Hex.f kj5 (wrap64 (x4_5))).bind fun t122 => (if (t113 != (decide (t122 ≥ 0))) = true then (some false) else ((decanterref03_Hex.f kj5 (wrap64 (x4_5))).bind fun t123 => (if t112 = (mx t123 0) then (decanterlaw03_ClassTells.l0 kj5 a0 (wrap64 (x3_1 + 1))) else (some false))))) else (some false))) = some r := H
                    have A21 := Aside0.mk A210
                    clear A210
                    replace H := Option.bind_eq_some_iff.mp H
                    obtain ⟨t121, A220, H⟩ := H
                    replace H : (if (wrap64 (t120)) = t121 then ((decanterref03_Hex.f kj5 (wrap64 (x4_5))).bind fun t122 => (if (t113 != (decide (t122 ≥ 0))) = true then (some false) else ((decanterref03_Hex.f kj5 (wrap64 (x4_5))).bind fun t123 => (if t112 = (mx t123 0) then (decanterlaw03_ClassTells.l0 kj5 a0 (wrap64 (x3_1 + 1))) else (some false))))) else (some false)) = some r := H
                    have A22 := Aside0.mk A220
                    clear A220
                    by_cases c23 : (wrap64 (t120)) = t121
                    · rw [if_pos c23] at H
                      have c23b0 : ((wrap64 (t120)) == t121) = true := beq_iff_eq.mpr c23
                      have c23b1 : ((wrap64 (t120)) != t121) = false := bne_eq_false_iff_eq.mpr c23
                      clear c23
                      replace H := Option.bind_eq_some_iff.mp H
                      obtain ⟨t122, A240, H⟩ := H
                      replace H : (if (t113 != (decide (t122 ≥ 0))) = true then (some false) else ((decanterref03_Hex.f kj5 (wrap64 (x4_5))).bind fun t123 => (if t112 = (mx t123 0) then (decanterlaw03_ClassTells.l0 kj5 a0 (wrap64 (x3_1 + 1))) else (some false)))) = some r := H
                      have A24 := Aside0.mk A240
                      clear A240
                      by_cases c25 : (t113 != (decide (t122 ≥ 0))) = true
                      · rw [if_pos c25] at H
                        have c25b0 : (t113 != (decide (t122 ≥ 0))) = true := c25
                        (try (have c25b1 : decide (t113 = (decide (t122 ≥ 0))) = false := by simpa using c25))
                        (try (have c25b2 : (t113 == (decide (t122 ≥ 0))) = false := by simpa using c25))
                        (try (have c25b3 : ¬ (t113 = (decide (t122 ≥ 0))) := by simpa using c25))
                        clear c25
                        obtain rfl := Option.some.inj H
                        go_wp2_with (first | ((with_reducible refine gate_callee (f := 6) rfl ?_); refine goesL_ (some 23) rfl rfl Try.func6 (by kernel_rfl) rfl #[.int .i32 x4_5] rfl (by (try simp only [List.map_toArray, List.map_cons, List.map_nil]); first | done | rfl | (simp only [List.length_drop, List.length_take]; rfl)) ?_; (with_reducible refine (class_Hex.calls x4_5 t112 t113 _ A8.out).mono ?_); rintro e w' ⟨rfl, ⟨nd, rfl⟩⟩; refine ⟨_, rfl, ?_⟩) | ((with_reducible refine gate_callee (f := 7) rfl ?_); refine goesL_ (some 27) rfl rfl Try.func7 (by kernel_rfl) rfl #[.int .i32 x4_5] rfl (by (try simp only [List.map_toArray, List.map_cons, List.map_nil]); first | done | rfl | (simp only [List.length_drop, List.length_take]; rfl)) ?_; (with_reducible refine (class_Blank.calls x4_5 t114 _ A9.out).mono ?_); rintro e w26 ⟨rfl, hb⟩; refine ⟨_, rfl, ?_⟩; have n0_ := Aside0.mk (below_step (by repeat (first | (with_reducible first | exact HB.out | apply below_alloc | apply pw_below_drewN | apply below_drew1) | exact HB.out)) hb); clear HB; have HB := n0_; clear n0_; (try clear hb); (try clear hb2); (try clear hk); (try clear hi)) | ((with_reducible refine gate_callee (f := 8) rfl ?_); refine goesL_ (some 29) rfl rfl Try.func8 (by kernel_rfl) rfl #[.int .i64 (wrap64 (x4_5))] rfl (by (try simp only [List.map_toArray, List.map_cons, List.map_nil]); first | done | rfl | (simp only [List.length_drop, List.length_take]; rfl)) ?_; (with_reducible refine (decanterref03_Blank.calls (wrap64 (x4_5)) t115 _ A10.out).mono ?_); rintro e w' ⟨rfl, ⟨nd, rfl⟩⟩; refine ⟨_, rfl, ?_⟩) | (go_at_call 9; (with_reducible refine (class_Letter.calls x4_5 t116 _ A13.out).mono ?_); rintro e w' ⟨rfl, ⟨nd, rfl⟩⟩) | (go_at_call 10; (with_reducible refine (decanterref03_Letter.calls (wrap64 (x4_5)) t117 _ A14.out).mono ?_); rintro e w' ⟨rfl, ⟨nd, rfl⟩⟩) | (go_at_call 11; (with_reducible refine (class_Digit.calls x4_5 t118 _ A17.out).mono ?_); rintro e w' ⟨rfl, ⟨nd, rfl⟩⟩) | (go_at_call 12; (with_reducible refine (decanterref03_Digit.calls (wrap64 (x4_5)) t119 _ A18.out).mono ?_); rintro e w' ⟨rfl, ⟨nd, rfl⟩⟩) | (go_at_call 13; (with_reducible refine (class_Lower.calls x4_5 t120 _ A21.out).mono ?_); rintro e w' ⟨rfl, ⟨nd, rfl⟩⟩) | (go_at_call 14; (with_reducible refine (decanterref03_Lower.calls (wrap64 (x4_5)) t121 _ A22.out).mono ?_); rintro e w' ⟨rfl, ⟨nd, rfl⟩⟩) | (go_at_call 15; (with_reducible refine (decanterref03_Hex.calls kj5 (wrap64 (x4_5)) t122 _ A24.out).mono ?_); rintro e w' ⟨rfl, ⟨nd, rfl⟩⟩))
                        go_ret
                        exact ⟨by first | rfl | (simp [errW_none, errW_some] <;> rfl) | (simp [*, errW_none, errW_some] <;> rfl), by repeat (first | (with_reducible first | exact HB.out | apply below_alloc | apply pw_below_drewN | apply below_drew1) | exact HB.out)⟩
                      · rw [if_neg c25] at H
                        have c25b0 : (t113 != (decide (t122 ≥ 0))) = false := by simpa using c25
                        (try (have c25b1 : decide (t113 = (decide (t122 ≥ 0))) = true := by simpa using c25))
                        (try (have c25b2 : (t113 == (decide (t122 ≥ 0))) = true := by simpa using c25))
                        clear c25
                        replace H := Option.bind_eq_some_iff.mp H
                        obtain ⟨t123, A270, H⟩ := H
                        replace H : (if t112 = (mx t123 0) then (decanterlaw03_ClassTells.l0 kj5 a0 (wrap64 (x3_1 + 1))) else (some false)) = some r := H
                        have A27 := Aside0.mk A270
                        clear A270
                        have E_A27 : t122 = t123 := Option.some.inj (A24.out.symm.trans A27.out)
                        subst E_A27
                        obtain ⟨ji28, hji28⟩ : ∃ j_ : Int, (mx t122 0) = j_ := ⟨_, rfl⟩
                        replace H : (if t112 = (ji28) then (decanterlaw03_ClassTells.l0 kj5 a0 (wrap64 (x3_1 + 1))) else (some false)) = some r := by first | (rw [hji28] at H; exact H) | (simp only [hji28] at H ⊢; exact H)
                        (try rw [hji28] at A8)
                        (try rw [hji28] at A9)
                        (try rw [hji28] at A10)
                        (try rw [hji28] at A13)
                        (try rw [hji28] at A14)
                        (try rw [hji28] at A17)
                        (try rw [hji28] at A18)
                        (try rw [hji28] at A21)
                        (try rw [hji28] at A22)
                        (try rw [hji28] at A24)
                        (try rw [hji28] at A27)
                        (try (have hji28l : 0 ≤ ji28 := by (rw [← hji28]; unfold mx; (repeat' split) <;> omega)))
                        (try (have hji28m : 0 ≤ ji28 := by omega))
                        have hji28_ : (if t122 < 0 then 0 else t122) = ji28 := hji28
                        by_cases c29 : t112 = (ji28)
                        · rw [if_pos c29] at H
                          have c29b0 : (t112 == (ji28)) = true := beq_iff_eq.mpr c29
                          have c29b1 : (t112 != (ji28)) = false := bne_eq_false_iff_eq.mpr c29
                          clear c29
                          have H' := Aside0.mk H
                          clear H
                          go_wp2_with (first | ((with_reducible refine gate_callee (f := 6) rfl ?_); refine goesL_ (some 23) rfl rfl Try.func6 (by kernel_rfl) rfl #[.int .i32 x4_5] rfl (by (try simp only [List.map_toArray, List.map_cons, List.map_nil]); first | done | rfl | (simp only [List.length_drop, List.length_take]; rfl)) ?_; (with_reducible refine (class_Hex.calls x4_5 t112 t113 _ A8.out).mono ?_); rintro e w' ⟨rfl, ⟨nd, rfl⟩⟩; refine ⟨_, rfl, ?_⟩) | ((with_reducible refine gate_callee (f := 7) rfl ?_); refine goesL_ (some 27) rfl rfl Try.func7 (by kernel_rfl) rfl #[.int .i32 x4_5] rfl (by (try simp only [List.map_toArray, List.map_cons, List.map_nil]); first | done | rfl | (simp only [List.length_drop, List.length_take]; rfl)) ?_; (with_reducible refine (class_Blank.calls x4_5 t114 _ A9.out).mono ?_); rintro e w30 ⟨rfl, hb⟩; refine ⟨_, rfl, ?_⟩; have n0_ := Aside0.mk (below_step (by repeat (first | (with_reducible first | exact HB.out | apply below_alloc | apply pw_below_drewN | apply below_drew1) | exact HB.out)) hb); clear HB; have HB := n0_; clear n0_; (try clear hb); (try clear hb2); (try clear hk); (try clear hi)) | ((with_reducible refine gate_callee (f := 8) rfl ?_); refine goesL_ (some 29) rfl rfl Try.func8 (by kernel_rfl) rfl #[.int .i64 (wrap64 (x4_5))] rfl (by (try simp only [List.map_toArray, List.map_cons, List.map_nil]); first | done | rfl | (simp only [List.length_drop, List.length_take]; rfl)) ?_; (with_reducible refine (decanterref03_Blank.calls (wrap64 (x4_5)) t115 _ A10.out).mono ?_); rintro e w' ⟨rfl, ⟨nd, rfl⟩⟩; refine ⟨_, rfl, ?_⟩) | (go_at_call 9; (with_reducible refine (class_Letter.calls x4_5 t116 _ A13.out).mono ?_); rintro e w' ⟨rfl, ⟨nd, rfl⟩⟩) | (go_at_call 10; (with_reducible refine (decanterref03_Letter.calls (wrap64 (x4_5)) t117 _ A14.out).mono ?_); rintro e w' ⟨rfl, ⟨nd, rfl⟩⟩) | (go_at_call 11; (with_reducible refine (class_Digit.calls x4_5 t118 _ A17.out).mono ?_); rintro e w' ⟨rfl, ⟨nd, rfl⟩⟩) | (go_at_call 12; (with_reducible refine (decanterref03_Digit.calls (wrap64 (x4_5)) t119 _ A18.out).mono ?_); rintro e w' ⟨rfl, ⟨nd, rfl⟩⟩) | (go_at_call 13; (with_reducible refine (class_Lower.calls x4_5 t120 _ A21.out).mono ?_); rintro e w' ⟨rfl, ⟨nd, rfl⟩⟩) | (go_at_call 14; (with_reducible refine (decanterref03_Lower.calls (wrap64 (x4_5)) t121 _ A22.out).mono ?_); rintro e w' ⟨rfl, ⟨nd, rfl⟩⟩) | (go_at_call 15; (with_reducible refine (decanterref03_Hex.calls kj5 (wrap64 (x4_5)) t122 _ A24.out).mono ?_); rintro e w' ⟨rfl, ⟨nd, rfl⟩⟩) | (go_at_call 15; (with_reducible refine (decanterref03_Hex.calls kj5 (wrap64 (x4_5)) t122 _ A27.out).mono ?_); rintro e w' ⟨rfl, ⟨nd, rfl⟩⟩))
                          go_roundg kj5
                          case measure => have := HK1.out; have := HJ5.out; omega
                          case rel => exact ⟨(wrap64 (x3_1 + 1)), (by first | rfl | (simp; done) | (simp [*]; done)), H', ⟨by have := HK1.out; have := HJ5.out; omega⟩, ⟨by repeat (first | (with_reducible first | exact HB.out | apply below_alloc | apply pw_below_drewN | apply below_drew1) | exact HB.out)⟩⟩
                        · rw [if_neg c29] at H
                          have c29b0 : (t112 == (ji28)) = false := beq_eq_false_iff_ne.mpr c29
                          have c29b1 : (t112 != (ji28)) = true := bne_iff_ne.mpr c29
                          obtain rfl := Option.some.inj H
                          go_wp2_with (first | ((with_reducible refine gate_callee (f := 6) rfl ?_); refine goesL_ (some 23) rfl rfl Try.func6 (by kernel_rfl) rfl #[.int .i32 x4_5] rfl (by (try simp only [List.map_toArray, List.map_cons, List.map_nil]); first | done | rfl | (simp only [List.length_drop, List.length_take]; rfl)) ?_; (with_reducible refine (class_Hex.calls x4_5 t112 t113 _ A8.out).mono ?_); rintro e w' ⟨rfl, ⟨nd, rfl⟩⟩; refine ⟨_, rfl, ?_⟩) | ((with_reducible refine gate_callee (f := 7) rfl ?_); refine goesL_ (some 27) rfl rfl Try.func7 (by kernel_rfl) rfl #[.int .i32 x4_5] rfl (by (try simp only [List.map_toArray, List.map_cons, List.map_nil]); first | done | rfl | (simp only [List.length_drop, List.length_take]; rfl)) ?_; (with_reducible refine (class_Blank.calls x4_5 t114 _ A9.out).mono ?_); rintro e w31 ⟨rfl, hb⟩; refine ⟨_, rfl, ?_⟩; have n0_ := Aside0.mk (below_step (by repeat (first | (with_reducible first | exact HB.out | apply below_alloc | apply pw_below_drewN | apply below_drew1) | exact HB.out)) hb); clear HB; have HB := n0_; clear n0_; (try clear hb); (try clear hb2); (try clear hk); (try clear hi)) | ((with_reducible refine gate_callee (f := 8) rfl ?_); refine goesL_ (some 29) rfl rfl Try.func8 (by kernel_rfl) rfl #[.int .i64 (wrap64 (x4_5))] rfl (by (try simp only [List.map_toArray, List.map_cons, List.map_nil]); first | done | rfl | (simp only [List.length_drop, List.length_take]; rfl)) ?_; (with_reducible refine (decanterref03_Blank.calls (wrap64 (x4_5)) t115 _ A10.out).mono ?_); rintro e w' ⟨rfl, ⟨nd, rfl⟩⟩; refine ⟨_, rfl, ?_⟩) | (go_at_call 9; (with_reducible refine (class_Letter.calls x4_5 t116 _ A13.out).mono ?_); rintro e w' ⟨rfl, ⟨nd, rfl⟩⟩) | (go_at_call 10; (with_reducible refine (decanterref03_Letter.calls (wrap64 (x4_5)) t117 _ A14.out).mono ?_); rintro e w' ⟨rfl, ⟨nd, rfl⟩⟩) | (go_at_call 11; (with_reducible refine (class_Digit.calls x4_5 t118 _ A17.out).mono ?_); rintro e w' ⟨rfl, ⟨nd, rfl⟩⟩) | (go_at_call 12; (with_reducible refine (decanterref03_Digit.calls (wrap64 (x4_5)) t119 _ A18.out).mono ?_); rintro e w' ⟨rfl, ⟨nd, rfl⟩⟩) | (go_at_call 13; (with_reducible refine (class_Lower.calls x4_5 t120 _ A21.out).mono ?_); rintro e w' ⟨rfl, ⟨nd, rfl⟩⟩) | (go_at_call 14; (with_reducible refine (decanterref03_Lower.calls (wrap64 (x4_5)) t121 _ A22.out).mono ?_); rintro e w' ⟨rfl, ⟨nd, rfl⟩⟩) | (go_at_call 15; (with_reducible refine (decanterref03_Hex.calls kj5 (wrap64 (x4_5)) t122 _ A24.out).mono ?_); rintro e w' ⟨rfl, ⟨nd, rfl⟩⟩) | (go_at_call 15; (with_reducible refine (decanterref03_Hex.calls kj5 (wrap64 (x4_5)) t122 _ A27.out).mono ?_); rintro e w' ⟨rfl, ⟨nd, rfl⟩⟩))
                          go_ret
                          exact ⟨by first | rfl | (simp [errW_none, errW_some] <;> rfl) | (simp only [← hji28]; first | rfl | (simp [errW_none, errW_some] <;> rfl)) | (simp [*, errW_none, errW_some] <;> rfl), by repeat (first | (with_reducible first | exact HB.out | apply below_alloc | apply pw_below_drewN | apply below_drew1) | exact HB.out)⟩
                    · rw [if_neg c23] at H
                      have c23b0 : ((wrap64 (t120)) == t121) = false := beq_eq_false_iff_ne.mpr c23
                      have c23b1 : ((wrap64 (t120)) != t121) = true := bne_iff_ne.mpr c23
                      obtain rfl := Option.some.inj H
                      go_wp2_with (first | ((with_reducible refine gate_callee (f := 6) rfl ?_); refine goesL_ (some 23) rfl rfl Try.func6 (by kernel_rfl) rfl #[.int .i32 x4_5] rfl (by (try simp only [List.map_toArray, List.map_cons, List.map_nil]); first | done | rfl | (simp only [List.length_drop, List.length_take]; rfl)) ?_; (with_reducible refine (class_Hex.calls x4_5 t112 t113 _ A8.out).mono ?_); rintro e w' ⟨rfl, ⟨nd, rfl⟩⟩; refine ⟨_, rfl, ?_⟩) | ((with_reducible refine gate_callee (f := 7) rfl ?_); refine goesL_ (some 27) rfl rfl Try.func7 (by kernel_rfl) rfl #[.int .i32 x4_5] rfl (by (try simp only [List.map_toArray, List.map_cons, List.map_nil]); first | done | rfl | (simp only [List.length_drop, List.length_take]; rfl)) ?_; (with_reducible refine (class_Blank.calls x4_5 t114 _ A9.out).mono ?_); rintro e w32 ⟨rfl, hb⟩; refine ⟨_, rfl, ?_⟩; have n0_ := Aside0.mk (below_step (by repeat (first | (with_reducible first | exact HB.out | apply below_alloc | apply pw_below_drewN | apply below_drew1) | exact HB.out)) hb); clear HB; have HB := n0_; clear n0_; (try clear hb); (try clear hb2); (try clear hk); (try clear hi)) | ((with_reducible refine gate_callee (f := 8) rfl ?_); refine goesL_ (some 29) rfl rfl Try.func8 (by kernel_rfl) rfl #[.int .i64 (wrap64 (x4_5))] rfl (by (try simp only [List.map_toArray, List.map_cons, List.map_nil]); first | done | rfl | (simp only [List.length_drop, List.length_take]; rfl)) ?_; (with_reducible refine (decanterref03_Blank.calls (wrap64 (x4_5)) t115 _ A10.out).mono ?_); rintro e w' ⟨rfl, ⟨nd, rfl⟩⟩; refine ⟨_, rfl, ?_⟩) | (go_at_call 9; (with_reducible refine (class_Letter.calls x4_5 t116 _ A13.out).mono ?_); rintro e w' ⟨rfl, ⟨nd, rfl⟩⟩) | (go_at_call 10; (with_reducible refine (decanterref03_Letter.calls (wrap64 (x4_5)) t117 _ A14.out).mono ?_); rintro e w' ⟨rfl, ⟨nd, rfl⟩⟩) | (go_at_call 11; (with_reducible refine (class_Digit.calls x4_5 t118 _ A17.out).mono ?_); rintro e w' ⟨rfl, ⟨nd, rfl⟩⟩) | (go_at_call 12; (with_reducible refine (decanterref03_Digit.calls (wrap64 (x4_5)) t119 _ A18.out).mono ?_); rintro e w' ⟨rfl, ⟨nd, rfl⟩⟩) | (go_at_call 13; (with_reducible refine (class_Lower.calls x4_5 t120 _ A21.out).mono ?_); rintro e w' ⟨rfl, ⟨nd, rfl⟩⟩) | (go_at_call 14; (with_reducible refine (decanterref03_Lower.calls (wrap64 (x4_5)) t121 _ A22.out).mono ?_); rintro e w' ⟨rfl, ⟨nd, rfl⟩⟩))
                      go_ret
                      exact ⟨by first | rfl | (simp [errW_none, errW_some] <;> rfl) | (simp [*, errW_none, errW_some] <;> rfl), by repeat (first | (with_reducible first | exact HB.out | apply below_alloc | apply pw_below_drewN | apply below_drew1) | exact HB.out)⟩
        · rw [if_neg c5] at H
          have c5b0 : decide (x3_1 ≤ 256) = false := decide_eq_false c5
          clear c5
          obtain rfl := Option.some.inj H
          go_wp2
          go_ret
          exact ⟨by first | rfl | (simp [errW_none, errW_some] <;> rfl) | (simp [*, errW_none, errW_some] <;> rfl), by repeat (first | (with_reducible first | exact HB.out | apply below_alloc | apply pw_below_drewN | apply below_drew1) | exact HB.out)⟩
  · replace c3 := Bool.eq_false_iff.mpr c3
    subst c3
    have H1 : (some false) = some r := by rw [if_neg (show ¬ (false = true) by decide)] at H; exact H
    clear H
    have H := H1
    clear H1
    obtain rfl := Option.some.inj H
    go_enter Try.func3, Try.ntmps3
    go_wp2_with (first | ((with_reducible refine gate_callee (f := 5) rfl ?_); refine goesL_ (some 8) rfl rfl Try.func5 (by kernel_rfl) rfl #[] rfl (by (try simp only [List.map_toArray, List.map_cons, List.map_nil]); first | done | rfl | (simp only [List.length_drop, List.length_take]; rfl)) ?_; (with_reducible refine (decanterlaw03_speaks.calls  false _ A2.out).mono ?_); rintro e w33 ⟨rfl, hb⟩; refine ⟨_, rfl, ?_⟩; have n0_ := Aside0.mk (below_step (by repeat (first | (with_reducible first | exact HB.out | apply below_alloc | apply pw_below_drewN | apply below_drew1) | exact HB.out)) hb); clear HB; have HB := n0_; clear n0_; (try clear hb); (try clear hb2); (try clear hk); (try clear hi)))
    go_ret
    exact ⟨by first | rfl | (simp [errW_none, errW_some] <;> rfl) | (simp [*, errW_none, errW_some] <;> rfl), by repeat (first | (with_reducible first | exact HB.out | apply below_alloc | apply pw_below_drewN | apply below_drew1) | exact HB.out)⟩

/-- THE ONE PURE STATEMENT of decanterlaw03_ClassTells: yours. -/
def decanterlaw03_ClassTells.Pure : Prop := ∀ (a0 : Int), (Lit.int .i32 a0).wf = true → ∃ k, decanterlaw03_ClassTells.f k a0 = some true
theorem decanterlaw03_ClassTells.walk (P : decanterlaw03_ClassTells.Pure) (a0 : Int) (w : World) (w0 : (Lit.int .i32 a0).wf = true) :
    Calls Try.prog 3 #[.int .i32 a0] w fun e w' => e = .returned (.bool true) ∧ Below w.heap.size w w' := by
  obtain ⟨k, h⟩ := P a0 w0
  refine (decanterlaw03_ClassTells.calls k a0 true w h).mono ?_
  rintro e w' ⟨rfl, hd⟩
  exact ⟨rfl, hd⟩

end Go.Proofs.Ytinjbabmpnljoaa.PClassTells
