-- Laid by a program of this session (tools/patch_print.py) out of the translation. Not trusted: Lean checks it.
import Derived.IntWalk
import Derived.Test.YtnmjocoopbfpnaaDoorPRefAx0
import Derived.Test.YtnmjocoopbfpnaaDoorPRefAx4
import Derived.Test.YtnmjocoopbfpnaaDoorPRefAx5
namespace Go.Proofs.YtnmjocoopbfpnaaDoor.PRefA
open Go.RowKit Go.Proofs.YtnmjocoopbfpnaaDoorW.PrintWords Go.Proofs.YtnmjocoopbfpnaaDoorW.PrintLast Go.Proofs.YtnmjocoopbfpnaaDoorW.PrintMore
attribute [local go_sem] max2_int min2_int max_two min_two max_three min_three max_four min_four   -- for this text's walks alone
set_option linter.unusedVariables false
set_option linter.unusedSimpArgs false

/-! ### decanterref05_byNumber: function 36 -/
mutual
def decanterref05_byNumber.j0 : Nat → List Int → Int → Int → Bool → Option (Int × Int)
  | 0, _, _, _, _ => none
  | k + 1, x0, x1, x6, x27 => if x27 = true then (decanterref05_byNumber.j1 k x0 (wrap64 (x1 + 1)) 16) else (decanterref05_byNumber.j1 k x0 x1 x6)
def decanterref05_byNumber.j1 : Nat → List Int → Int → Int → Option (Int × Int)
  | 0, _, _, _ => none
  | k + 1, x0, x1, x6 => decanterref05_byNumber.l0 k x0 x1 x6 0 x1
def decanterref05_byNumber.j4 : Nat → List Int → Int → Int → Int → Option (Int × Int)
  | 0, _, _, _, _ => none
  | k + 1, x0, x1, x7, x8 => if x1 = x8 then (some (0, (-1))) else (if x1 < (x0.length : Int) then (if 0 ≤ x1 then (if (rd x0 x1) = 59 then ((decanterref05_Point.f k x7).bind fun t195 => (some (t195, wrap64 (x1 + 1)))) else ((decanterref05_Point.f k x7).bind fun t196 => (some (t196, x1)))) else (none)) else ((decanterref05_Point.f k x7).bind fun t197 => (some (t197, x1))))
def decanterref05_byNumber.l0 : Nat → List Int → Int → Int → Int → Int → Option (Int × Int)
  | 0, _, _, _, _, _ => none
  | k + 1, x0, x1, x6, x7, x8 => if x1 < (x0.length : Int) then (if 0 ≤ x1 then ((decanterref03_Hex.f k (wrap64 (rd x0 x1))).bind fun t193 => (if t193 < 0 then (decanterref05_byNumber.j3 k x0 x1 x6 x7 x8 t193 true) else (decanterref05_byNumber.j3 k x0 x1 x6 x7 x8 t193 (decide (t193 ≥ x6))))) else (none)) else (decanterref05_byNumber.j4 k x0 x1 x7 x8)
def decanterref05_byNumber.j3 : Nat → List Int → Int → Int → Int → Int → Int → Bool → Option (Int × Int)
  | 0, _, _, _, _, _, _, _ => none
  | k + 1, x0, x1, x6, x7, x8, x9, x47 => if x47 = true then (decanterref05_byNumber.j4 k x0 x1 x7 x8) else (if (wrap64 ((wrap64 (x7 * x6)) + x9)) > 1114112 then (decanterref05_byNumber.l0 k x0 (wrap64 (x1 + 1)) x6 1114112 x8) else (decanterref05_byNumber.l0 k x0 (wrap64 (x1 + 1)) x6 (wrap64 ((wrap64 (x7 * x6)) + x9)) x8))
end
def decanterref05_byNumber.f (k : Nat) (l0 : List Int) (a1 : Int) : Option (Int × Int) := if a1 < (l0.length : Int) then (if 0 ≤ a1 then (if (rd l0 a1) = 120 then (decanterref05_byNumber.j0 k l0 a1 10 true) else (decanterref05_byNumber.j0 k l0 a1 10 ((rd l0 a1) == 88))) else (none)) else (decanterref05_byNumber.j0 k l0 a1 10 false)
theorem decanterref05_byNumber.mono_l : ∀ k, (∀ y0 y1 y2 y3, LeO (decanterref05_byNumber.j0 k y0 y1 y2 y3) (decanterref05_byNumber.j0 (k + 1) y0 y1 y2 y3)) ∧ (∀ y0 y1 y2, LeO (decanterref05_byNumber.j1 k y0 y1 y2) (decanterref05_byNumber.j1 (k + 1) y0 y1 y2)) ∧ (∀ y0 y1 y2 y3, LeO (decanterref05_byNumber.j4 k y0 y1 y2 y3) (decanterref05_byNumber.j4 (k + 1) y0 y1 y2 y3)) ∧ (∀ y0 y1 y2 y3 y4, LeO (decanterref05_byNumber.l0 k y0 y1 y2 y3 y4) (decanterref05_byNumber.l0 (k + 1) y0 y1 y2 y3 y4)) ∧ (∀ y0 y1 y2 y3 y4 y5 y6, LeO (decanterref05_byNumber.j3 k y0 y1 y2 y3 y4 y5 y6) (decanterref05_byNumber.j3 (k + 1) y0 y1 y2 y3 y4 y5 y6))
  | 0 => ⟨fun _ _ _ _ r h => by simp [decanterref05_byNumber.j0] at h, fun _ _ _ r h => by simp [decanterref05_byNumber.j1] at h, fun _ _ _ _ r h => by simp [decanterref05_byNumber.j4] at h, fun _ _ _ _ _ r h => by simp [decanterref05_byNumber.l0] at h, fun _ _ _ _ _ _ _ r h => by simp [decanterref05_byNumber.j3] at h⟩
  | k + 1 => by
    obtain ⟨ih0, ih1, ih2, ih3, ih4⟩ := decanterref05_byNumber.mono_l k
    refine ⟨?_, ?_, ?_, ?_, ?_⟩
    · intro y0 y1 y2 y3
      unfold decanterref05_byNumber.j0
      repeat' first
      | (with_reducible exact ih0 _ _ _ _)
      | (with_reducible exact ih1 _ _ _)
      | (with_reducible exact ih2 _ _ _ _)
      | (with_reducible exact ih3 _ _ _ _ _)
      | (with_reducible exact ih4 _ _ _ _ _ _ _)
      | (with_reducible exact decanterref03_Hex.mono _ _)
      | (with_reducible exact decanterref05_Point.mono _ _)
      | (with_reducible exact LeO.refl _)
      | (with_reducible exact LeO.none _)
      | (with_reducible refine LeO.ite ?_ ?_)
      | (with_reducible refine LeO.bind ?_ (fun _ => ?_))
      | exact ih0 _ _ _ _
      | exact ih1 _ _ _
      | exact ih2 _ _ _ _
      | exact ih3 _ _ _ _ _
      | exact ih4 _ _ _ _ _ _ _
      | exact decanterref03_Hex.mono _ _
      | exact decanterref05_Point.mono _ _
      | exact LeO.none _
      | refine LeO.ite ?_ ?_
      | refine LeO.bind ?_ (fun _ => ?_)
    · intro y0 y1 y2
      unfold decanterref05_byNumber.j1
      repeat' first
      | (with_reducible exact ih0 _ _ _ _)
      | (with_reducible exact ih1 _ _ _)
      | (with_reducible exact ih2 _ _ _ _)
      | (with_reducible exact ih3 _ _ _ _ _)
      | (with_reducible exact ih4 _ _ _ _ _ _ _)
      | (with_reducible exact decanterref03_Hex.mono _ _)
      | (with_reducible exact decanterref05_Point.mono _ _)
      | (with_reducible exact LeO.refl _)
      | (with_reducible exact LeO.none _)
      | (with_reducible refine LeO.ite ?_ ?_)
      | (with_reducible refine LeO.bind ?_ (fun _ => ?_))
      | exact ih0 _ _ _ _
      | exact ih1 _ _ _
      | exact ih2 _ _ _ _
      | exact ih3 _ _ _ _ _
      | exact ih4 _ _ _ _ _ _ _
      | exact decanterref03_Hex.mono _ _
      | exact decanterref05_Point.mono _ _
      | exact LeO.none _
      | refine LeO.ite ?_ ?_
      | refine LeO.bind ?_ (fun _ => ?_)
    · intro y0 y1 y2 y3
      unfold decanterref05_byNumber.j4
      repeat' first
      | (with_reducible exact ih0 _ _ _ _)
      | (with_reducible exact ih1 _ _ _)
      | (with_reducible exact ih2 _ _ _ _)
      | (with_reducible exact ih3 _ _ _ _ _)
      | (with_reducible exact ih4 _ _ _ _ _ _ _)
      | (with_reducible exact decanterref03_Hex.mono _ _)
      | (with_reducible exact decanterref05_Point.mono _ _)
      | (with_reducible exact LeO.refl _)
      | (with_reducible exact LeO.none _)
      | (with_reducible refine LeO.ite ?_ ?_)
      | (with_reducible refine LeO.bind ?_ (fun _ => ?_))
      | exact ih0 _ _ _ _
      | exact ih1 _ _ _
      | exact ih2 _ _ _ _
      | exact ih3 _ _ _ _ _
      | exact ih4 _ _ _ _ _ _ _
      | exact decanterref03_Hex.mono _ _
      | exact decanterref05_Point.mono _ _
      | exact LeO.none _
      | refine LeO.ite ?_ ?_
      | refine LeO.bind ?_ (fun _ => ?_)
    · intro y0 y1 y2 y3 y4
      unfold decanterref05_byNumber.l0
      repeat' first
      | (with_reducible exact ih0 _ _ _ _)
      | (with_reducible exact ih1 _ _ _)
      | (with_reducible exact ih2 _ _ _ _)
      | (with_reducible exact ih3 _ _ _ _ _)
      | (with_reducible exact ih4 _ _ _ _ _ _ _)
      | (with_reducible exact decanterref03_Hex.mono _ _)
      | (with_reducible exact decanterref05_Point.mono _ _)
      | (with_reducible exact LeO.refl _)
      | (with_reducible exact LeO.none _)
      | (with_reducible refine LeO.ite ?_ ?_)
      | (with_reducible refine LeO.bind ?_ (fun _ => ?_))
      | exact ih0 _ _ _ _
      | exact ih1 _ _ _
      | exact ih2 _ _ _ _
      | exact ih3 _ _ _ _ _
      | exact ih4 _ _ _ _ _ _ _
      | exact decanterref03_Hex.mono _ _
      | exact decanterref05_Point.mono _ _
      | exact LeO.none _
      | refine LeO.ite ?_ ?_
      | refine LeO.bind ?_ (fun _ => ?_)
    · intro y0 y1 y2 y3 y4 y5 y6
      unfold decanterref05_byNumber.j3
      repeat' first
      | (with_reducible exact ih0 _ _ _ _)
      | (with_reducible exact ih1 _ _ _)
      | (with_reducible exact ih2 _ _ _ _)
      | (with_reducible exact ih3 _ _ _ _ _)
      | (with_reducible exact ih4 _ _ _ _ _ _ _)
      | (with_reducible exact decanterref03_Hex.mono _ _)
      | (with_reducible exact decanterref05_Point.mono _ _)
      | (with_reducible exact LeO.refl _)
      | (with_reducible exact LeO.none _)
      | (with_reducible refine LeO.ite ?_ ?_)
      | (with_reducible refine LeO.bind ?_ (fun _ => ?_))
      | exact ih0 _ _ _ _
      | exact ih1 _ _ _
      | exact ih2 _ _ _ _
      | exact ih3 _ _ _ _ _
      | exact ih4 _ _ _ _ _ _ _
      | exact decanterref03_Hex.mono _ _
      | exact decanterref05_Point.mono _ _
      | exact LeO.none _
      | refine LeO.ite ?_ ?_
      | refine LeO.bind ?_ (fun _ => ?_)
theorem decanterref05_byNumber.mono : ∀ a0 a1 k, LeO (decanterref05_byNumber.f k a0 a1) (decanterref05_byNumber.f (k + 1) a0 a1) := by
  intro a0 a1 k
  obtain ⟨ih0, ih1, ih2, ih3, ih4⟩ := decanterref05_byNumber.mono_l k
  unfold decanterref05_byNumber.f
  repeat' first
      | (with_reducible exact ih0 _ _ _ _)
      | (with_reducible exact ih1 _ _ _)
      | (with_reducible exact ih2 _ _ _ _)
      | (with_reducible exact ih3 _ _ _ _ _)
      | (with_reducible exact ih4 _ _ _ _ _ _ _)
      | (with_reducible exact decanterref03_Hex.mono _ _)
      | (with_reducible exact decanterref05_Point.mono _ _)
      | (with_reducible exact LeO.refl _)
      | (with_reducible exact LeO.none _)
      | (with_reducible refine LeO.ite ?_ ?_)
      | (with_reducible refine LeO.bind ?_ (fun _ => ?_))
      | exact ih0 _ _ _ _
      | exact ih1 _ _ _
      | exact ih2 _ _ _ _
      | exact ih3 _ _ _ _ _
      | exact ih4 _ _ _ _ _ _ _
      | exact decanterref03_Hex.mono _ _
      | exact decanterref05_Point.mono _ _
      | exact LeO.none _
      | refine LeO.ite ?_ ?_
      | refine LeO.bind ?_ (fun _ => ?_)
set_option maxHeartbeats 8000000 in
set_option maxRecDepth 100000 in
theorem decanterref05_byNumber.calls (k : Nat) (A0 : Option Addr) (c0 : Nat) (l0 : List Int) (a1 : Int) (r1 : Int) (r2 : Int) (w : World) (hr0 : Kd.C (Kd.int .u8) w A0 l0.length l0) (hc0 : l0.length ≤ c0) (h : decanterref05_byNumber.f k l0 a1 = some (r1, r2)) :
    Calls Tryd.prog 36 #[.slice A0 l0.length c0, .int .i64 a1] w fun e w' => e = .returned (.tuple #[.int .i64 r1, .int .i64 r2]) ∧ Below w.heap.size w w' := by
  have HR0 := Aside0.mk hr0
  have HC0 := Aside0.mk hc0
  clear hr0 hc0
  have HB := Aside0.mk (Below.refl w.heap.size w)
  have H : (if a1 < (l0.length : Int) then (if 0 ≤ a1 then (if (rd l0 a1) = 120 then (decanterref05_byNumber.j0 k l0 a1 10 true) else (decanterref05_byNumber.j0 k l0 a1 10 ((rd l0 a1) == 88))) else (none)) else (decanterref05_byNumber.j0 k l0 a1 10 false)) = some (r1, r2) := h
  clear h
  have HC3 := Aside0.mk H
  clear H
  go_enter Tryd.func36, Tryd.ntmps36
  go_upto_region 2 with (fail)
  go_cut [27] (fun v27 wc => ∃ (kq : Nat) (x27_2 : Bool), v27 = .bool x27_2 ∧ Aside0 (decanterref05_byNumber.j0 kq l0 a1 10 x27_2 = some (r1, r2)) ∧ Aside0 (kq ≤ k) ∧ Aside0 (Below w.heap.size w wc))
  case first =>
    have H := HC3.out
    clear HC3
    by_cases c4 : a1 < (l0.length : Int)
    · rw [if_pos c4] at H
      have c4b0 : decide (a1 < (l0.length : Int)) = true := decide_eq_true c4
      clear c4
      (first | rw [c4b0] | (simp only [i64_w, i32_w]; rw [c4b0]) | skip)
      by_cases c5 : 0 ≤ a1
      · rw [if_pos c5] at H
        have c5b0 : decide (0 ≤ a1) = true := decide_eq_true c5
        clear c5
        by_cases c6 : (rd l0 a1) = 120
        · rw [if_pos c6] at H
          have c6b0 : ((rd l0 a1) == 120) = true := beq_iff_eq.mpr c6
          have c6b1 : ((rd l0 a1) != 120) = false := bne_eq_false_iff_eq.mpr c6
          clear c6
          have H' := Aside0.mk H
          clear H
          have p190 : 0 ≤ (a1 : Int) := of_decide_eq_true (by first | (with_reducible assumption) | assumption)
          have q190 : a1 < (l0.length : Int) := of_decide_eq_true (by first | (with_reducible assumption) | assumption)
          obtain ⟨ad190, e190, hx190_0⟩ := Kd.at_int HR0.out a1 p190 q190
          cases e190
          replace hx190_0 := (HB.out.cell (World.block_lt_of_cell? w _ hx190_0)).trans hx190_0
          replace p190 := eq_true p190
          replace q190 := eq_true q190
          go_wp2
          go_meet
          case rel => exact ⟨_, (true), (by first | rfl | (simp; done) | (simp [*]; done)), H', ⟨by first | omega | exact Nat.le_refl _⟩, ⟨by repeat (first | (with_reducible first | exact HB.out | apply below_alloc | apply pw_below_drewN | apply below_drew1) | exact HB.out)⟩⟩
        · rw [if_neg c6] at H
          have c6b0 : ((rd l0 a1) == 120) = false := beq_eq_false_iff_ne.mpr c6
          have c6b1 : ((rd l0 a1) != 120) = true := bne_iff_ne.mpr c6
          have H' := Aside0.mk H
          clear H
          have p190 : 0 ≤ (a1 : Int) := of_decide_eq_true (by first | (with_reducible assumption) | assumption)
          have q190 : a1 < (l0.length : Int) := of_decide_eq_true (by first | (with_reducible assumption) | assumption)
          obtain ⟨ad190, e190, hx190_0⟩ := Kd.at_int HR0.out a1 p190 q190
          cases e190
          replace hx190_0 := (HB.out.cell (World.block_lt_of_cell? w _ hx190_0)).trans hx190_0
          replace p190 := eq_true p190
          replace q190 := eq_true q190
          have p191 : 0 ≤ (a1 : Int) := of_decide_eq_true (by first | (with_reducible assumption) | assumption)
          have q191 : a1 < (l0.length : Int) := of_decide_eq_true (by first | (with_reducible assumption) | assumption)
          obtain ⟨ad191, e191, hx191_0⟩ := Kd.at_int HR0.out a1 p191 q191
          obtain rfl : ad190 = ad191 := (by injection e191)
          replace hx191_0 := (HB.out.cell (World.block_lt_of_cell? w _ hx191_0)).trans hx191_0
          replace p191 := eq_true p191
          replace q191 := eq_true q191
          go_wp2
          go_meet
          case rel => exact ⟨_, (((rd l0 a1) == 88)), (by first | rfl | (simp; done) | (simp [*]; done)), H', ⟨by first | omega | exact Nat.le_refl _⟩, ⟨by repeat (first | (with_reducible first | exact HB.out | apply below_alloc | apply pw_below_drewN | apply below_drew1) | exact HB.out)⟩⟩
      · rw [if_neg c5] at H
        exact absurd H (by simp)
    · rw [if_neg c4] at H
      have c4b0 : decide (a1 < (l0.length : Int)) = false := decide_eq_false c4
      clear c4
      (first | rw [c4b0] | (simp only [i64_w, i32_w]; rw [c4b0]) | skip)
      have H' := Aside0.mk H
      clear H
      go_wp2
      go_meet
      case rel => exact ⟨_, (false), (by first | rfl | (simp; done) | (simp [*]; done)), H', ⟨by first | omega | exact Nat.le_refl _⟩, ⟨by repeat (first | (with_reducible first | exact HB.out | apply below_alloc | apply pw_below_drewN | apply below_drew1) | exact HB.out)⟩⟩
  case rest =>
    clear HC3
    try clear p1
    try clear q1
    try clear hx1
    try clear p2
    try clear c3
    try clear c4
    try clear c4b0
    try clear c5
    try clear c5b0
    try clear c6
    try clear c6b0
    try clear c6b1
    try clear hx190_0
    try clear hx191_0
    try clear p190
    try clear p191
    try clear q190
    try clear q191
    obtain ⟨kq, x27_2, rfl, HA, HJ2, HB⟩ := hcut
    cases kq with
    | zero => exact absurd HA.out (by simp [decanterref05_byNumber.j0])
    | succ kj2 =>
      have H := HA.out
      clear HA
      simp only [decanterref05_byNumber.j0] at H
      have HC7 := Aside0.mk H
      clear H
      go_upto_if 27 with (fail)
      go_cut [1, 6] (fun v1 v6 wc => ∃ (kq : Nat) (x1_6 : Int) (x6_6 : Int), v1 = .int .i64 x1_6 ∧ v6 = .int .i64 x6_6 ∧ Aside0 (decanterref05_byNumber.j1 kq l0 x1_6 x6_6 = some (r1, r2)) ∧ Aside0 (kq ≤ kj2) ∧ Aside0 (Below w.heap.size w wc))
      case first =>
        have H := HC7.out
        clear HC7
        by_cases c8 : x27_2 = true
        · subst c8
          have H1 : (decanterref05_byNumber.j1 kj2 l0 (wrap64 (a1 + 1)) 16) = some (r1, r2) := by rw [if_pos rfl] at H; exact H
          clear H
          have H := H1
          clear H1
          have H' := Aside0.mk H
          clear H
          go_wp2
          go_meet
          case rel => exact ⟨_, (wrap64 (a1 + 1)), (16), (by first | rfl | (simp; done) | (rw [Go.IntWalk.wrap64_in (a1 + 1) (by omega)]; done) | (rw [Go.IntWalk.wrap64_in (a1 + 1) (by omega)]; simp; done) | (simp [*]; done)), (by first | rfl | (simp; done) | (rw [Go.IntWalk.wrap64_in (a1 + 1) (by omega)]; done) | (rw [Go.IntWalk.wrap64_in (a1 + 1) (by omega)]; simp; done) | (simp [*]; done)), H', ⟨by have := HJ2.out; first | omega | exact Nat.le_refl _⟩, ⟨by repeat (first | (with_reducible first | exact HB.out | apply below_alloc | apply pw_below_drewN | apply below_drew1) | exact HB.out)⟩⟩
        · replace c8 := Bool.eq_false_iff.mpr c8
          subst c8
          have H1 : (decanterref05_byNumber.j1 kj2 l0 a1 10) = some (r1, r2) := by rw [if_neg (show ¬ (false = true) by decide)] at H; exact H
          clear H
          have H := H1
          clear H1
          have H' := Aside0.mk H
          clear H
          go_wp2
          go_meet
          case rel => exact ⟨_, (a1), (10), (by first | rfl | (simp; done) | (simp [*]; done)), (by first | rfl | (simp; done) | (simp [*]; done)), H', ⟨by have := HJ2.out; first | omega | exact Nat.le_refl _⟩, ⟨by repeat (first | (with_reducible first | exact HB.out | apply below_alloc | apply pw_below_drewN | apply below_drew1) | exact HB.out)⟩⟩
      case rest =>
        clear HC7
        try clear p1
        try clear q1
        try clear hx1
        try clear p2
        try clear c3
        try clear c4
        try clear c4b0
        try clear c5
        try clear c5b0
        try clear c6
        try clear c6b0
        try clear c6b1
        try clear p6
        try clear c8
        try clear hx190_0
        try clear hx191_0
        try clear p1
        try clear p190
        try clear p191
        try clear p2
        try clear q1
        try clear q190
        try clear q191
        obtain ⟨kq, x1_6, x6_6, rfl, rfl, HA, HJ6, HB⟩ := hcut
        cases kq with
        | zero => exact absurd HA.out (by simp [decanterref05_byNumber.j1])
        | succ kj6 =>
          have H := HA.out
          clear HA
          simp only [decanterref05_byNumber.j1] at H
          have HC9 := Aside0.mk H
          clear H
          go_upto_block 0 with (fail)
          go_cut [1, 7] (fun v1 v7 wc => ∃ (kq : Nat) (x1_8 : Int) (x7_8 : Int), v1 = .int .i64 x1_8 ∧ v7 = .int .i64 x7_8 ∧ Aside0 (decanterref05_byNumber.j4 kq l0 x1_8 x7_8 x1_6 = some (r1, r2)) ∧ Aside0 (kq ≤ kj6) ∧ Aside0 (Below w.heap.size w wc))
          case first =>
            have H := HC9.out
            clear HC9
            have H' := Aside0.mk H
            clear H
            go_wp2
            go_loopg [1, 7] kj6 (fun kq v1 v7 w' => ∃ (x1_3 : Int) (x7_3 : Int), v1 = .int .i64 x1_3 ∧ v7 = .int .i64 x7_3 ∧ Aside0 (decanterref05_byNumber.l0 kq l0 x1_3 x6_6 x7_3 x1_6 = some (r1, r2)) ∧ Aside0 (kq ≤ kj6) ∧ Aside0 (Below w.heap.size w w'))
            case atStart => exact ⟨(x1_6), (0), (by first | rfl | (simp; done) | (simp [*]; done)), (by first | rfl | (simp; done) | (simp [*]; done)), H', ⟨Nat.le_refl _⟩, ⟨by repeat (first | (with_reducible first | exact HB.out | apply below_alloc | apply pw_below_drewN | apply below_drew1) | exact HB.out)⟩⟩
            case round =>
              clear H'
              try clear p1
              try clear q1
              try clear hx1
              try clear p2
              try clear c3
              try clear c4
              try clear c4b0
              try clear c5
              try clear c5b0
              try clear c6
              try clear c6b0
              try clear c6b1
              try clear p6
              try clear c8
              try clear hx190_0
              try clear hx191_0
              try clear p1
              try clear p190
              try clear p191
              try clear p2
              try clear p6
              try clear q1
              try clear q190
              try clear q191
              obtain ⟨x1_3, x7_3, rfl, rfl, HA, HK3, HB⟩ := hrel
              cases gk with
              | zero => exact absurd HA.out (by simp [decanterref05_byNumber.l0])
              | succ k3 =>
                have H := HA.out
                clear HA
                simp only [decanterref05_byNumber.l0] at H
                by_cases c10 : x1_3 < (l0.length : Int)
                · rw [if_pos c10] at H
                  have c10b0 : decide (x1_3 < (l0.length : Int)) = true := decide_eq_true c10
                  clear c10
                  (first | rw [c10b0] | (simp only [i64_w, i32_w]; rw [c10b0]) | skip)
                  by_cases c11 : 0 ≤ x1_3
                  · rw [if_pos c11] at H
                    have c11b0 : decide (0 ≤ x1_3) = true := decide_eq_true c11
                    clear c11
                    replace H := Option.bind_eq_some_iff.mp H
                    obtain ⟨t193, A120, H⟩ := H
                    replace H : (if t193 < 0 then (decanterref05_byNumber.j3 k3 l0 x1_3 x6_6 x7_3 x1_6 t193 true) else (decanterref05_byNumber.j3 k3 l0 x1_3 x6_6 x7_3 x1_6 t193 (decide (t193 ≥ x6_6)))) = some (r1, r2) := H
                    have A12 := Aside0.mk A120
                    clear A120
                    have HC13 := Aside0.mk H
                    clear H
                    have p192 : 0 ≤ (x1_3 : Int) := of_decide_eq_true (by first | (with_reducible assumption) | assumption)
                    have q192 : x1_3 < (l0.length : Int) := of_decide_eq_true (by first | (with_reducible assumption) | assumption)
                    obtain ⟨ad192, e192, hx192_0⟩ := Kd.at_int HR0.out x1_3 p192 q192
                    cases e192
                    replace hx192_0 := (HB.out.cell (World.block_lt_of_cell? w _ hx192_0)).trans hx192_0
                    replace p192 := eq_true p192
                    replace q192 := eq_true q192
                    go_upto_region 8 with (first | ((with_reducible refine gate_callee (f := 52) rfl ?_); refine goesL_ (some 40) rfl rfl Tryd.func52 (by kernel_rfl) rfl #[.int .i64 (wrap64 (rd l0 x1_3))] rfl (by (try simp only [List.map_toArray, List.map_cons, List.map_nil]); first | done | rfl | (simp only [List.length_drop, List.length_take]; rfl)) ?_; (with_reducible refine (decanterref03_Hex.calls k3 (wrap64 (rd l0 x1_3)) t193 _ A12.out).mono ?_); rintro e w' ⟨rfl, ⟨nd, rfl⟩⟩; refine ⟨_, rfl, ?_⟩))
                    (try simp only [Act.put, List.setIfInBounds_toArray, List.set_cons_zero, List.set_cons_succ])
                    go_cut [47] (fun v47 wc => ∃ (kq : Nat) (x47_12 : Bool), v47 = .bool x47_12 ∧ Aside0 (decanterref05_byNumber.j3 kq l0 x1_3 x6_6 x7_3 x1_6 t193 x47_12 = some (r1, r2)) ∧ Aside0 (kq ≤ k3) ∧ Aside0 (Below w.heap.size w wc))
                    case first =>
                      have H := HC13.out
                      clear HC13
                      by_cases c14 : t193 < 0
                      · rw [if_pos c14] at H
                        have c14b0 : decide (t193 < 0) = true := decide_eq_true c14
                        clear c14
                        (first | rw [c14b0] | (simp only [i64_w, i32_w]; rw [c14b0]) | skip)
                        have H' := Aside0.mk H
                        clear H
                        go_wp2
                        go_meet
                        case rel => exact ⟨_, (true), (by first | rfl | (simp; done) | (simp [*]; done)), H', ⟨by have := HJ2.out; have := HJ6.out; have := HK3.out; first | omega | exact Nat.le_refl _⟩, ⟨by repeat (first | (with_reducible first | exact HB.out | apply below_alloc | apply pw_below_drewN | apply below_drew1) | exact HB.out)⟩⟩
                      · rw [if_neg c14] at H
                        have c14b0 : decide (t193 < 0) = false := decide_eq_false c14
                        clear c14
                        (first | rw [c14b0] | (simp only [i64_w, i32_w]; rw [c14b0]) | skip)
                        have H' := Aside0.mk H
                        clear H
                        go_wp2
                        go_meet
                        case rel => exact ⟨_, (decide (t193 ≥ x6_6)), (by first | rfl | (simp; done) | (simp [*]; done)), H', ⟨by have := HJ2.out; have := HJ6.out; have := HK3.out; first | omega | exact Nat.le_refl _⟩, ⟨by repeat (first | (with_reducible first | exact HB.out | apply below_alloc | apply pw_below_drewN | apply below_drew1) | exact HB.out)⟩⟩
                    case rest =>
                      clear HC13
                      try clear c1
                      try clear p1
                      try clear q1
                      try clear hx1
                      try clear p2
                      try clear c3
                      try clear c4
                      try clear c4b0
                      try clear c5
                      try clear c5b0
                      try clear c6
                      try clear c6b0
                      try clear c6b1
                      try clear p6
                      try clear c8
                      try clear c10
                      try clear c10b0
                      try clear c11
                      try clear c11b0
                      try clear c14
                      try clear c14b0
                      try clear hx190_0
                      try clear hx191_0
                      try clear hx192_0
                      try clear p1
                      try clear p190
                      try clear p191
                      try clear p192
                      try clear p2
                      try clear p6
                      try clear q1
                      try clear q190
                      try clear q191
                      try clear q192
                      obtain ⟨kq, x47_12, rfl, HA, HJ12, HB⟩ := hcut
                      cases kq with
                      | zero => exact absurd HA.out (by simp [decanterref05_byNumber.j3])
                      | succ kj12 =>
                        have H := HA.out
                        clear HA
                        simp only [decanterref05_byNumber.j3] at H
                        by_cases c15 : x47_12 = true
                        · subst c15
                          have H1 : (decanterref05_byNumber.j4 kj12 l0 x1_3 x7_3 x1_6) = some (r1, r2) := by rw [if_pos rfl] at H; exact H
                          clear H
                          have H := H1
                          clear H1
                          have H' := Aside0.mk H
                          clear H
                          go_wp2
                          go_meet
                          case rel => exact ⟨_, (x1_3), (x7_3), (by first | rfl | (simp; done) | (simp [*]; done)), (by first | rfl | (simp; done) | (simp [*]; done)), H', ⟨by have := HJ2.out; have := HJ6.out; have := HK3.out; have := HJ12.out; first | omega | exact Nat.le_refl _⟩, ⟨by repeat (first | (with_reducible first | exact HB.out | apply below_alloc | apply pw_below_drewN | apply below_drew1) | exact HB.out)⟩⟩
                        · replace c15 := Bool.eq_false_iff.mpr c15
                          subst c15
                          have H1 : (if (wrap64 ((wrap64 (x7_3 * x6_6)) + t193)) > 1114112 then (decanterref05_byNumber.l0 kj12 l0 (wrap64 (x1_3 + 1)) x6_6 1114112 x1_6) else (decanterref05_byNumber.l0 kj12 l0 (wrap64 (x1_3 + 1)) x6_6 (wrap64 ((wrap64 (x7_3 * x6_6)) + t193)) x1_6)) = some (r1, r2) := by rw [if_neg (show ¬ (false = true) by decide)] at H; exact H
                          clear H
                          have H := H1
                          clear H1
                          by_cases c16 : (wrap64 ((wrap64 (x7_3 * x6_6)) + t193)) > 1114112
                          · rw [if_pos c16] at H
                            have c16b0 : decide (1114112 < (wrap64 ((wrap64 (x7_3 * x6_6)) + t193))) = true := decide_eq_true c16
                            clear c16
                            have H' := Aside0.mk H
                            clear H
                            go_wp2
                            go_roundg kj12
                            case measure => have := HJ2.out; have := HJ6.out; have := HK3.out; have := HJ12.out; omega
                            case rel => exact ⟨(wrap64 (x1_3 + 1)), (1114112), (by first | rfl | (simp; done) | (rw [Go.IntWalk.wrap64_in (x1_3 + 1) (by omega)]; done) | (rw [Go.IntWalk.wrap64_in (x1_3 + 1) (by omega)]; simp; done) | (simp [*]; done)), (by first | rfl | (simp; done) | (rw [Go.IntWalk.wrap64_in (x1_3 + 1) (by omega)]; done) | (rw [Go.IntWalk.wrap64_in (x1_3 + 1) (by omega)]; simp; done) | (simp [*]; done)), H', ⟨by have := HJ2.out; have := HJ6.out; have := HK3.out; have := HJ12.out; omega⟩, ⟨by repeat (first | (with_reducible first | exact HB.out | apply below_alloc | apply pw_below_drewN | apply below_drew1) | exact HB.out)⟩⟩
                          · rw [if_neg c16] at H
                            have c16b0 : decide (1114112 < (wrap64 ((wrap64 (x7_3 * x6_6)) + t193))) = false := decide_eq_false c16
                            clear c16
                            have H' := Aside0.mk H
                            clear H
                            go_wp2
                            go_roundg kj12
                            case measure => have := HJ2.out; have := HJ6.out; have := HK3.out; have := HJ12.out; omega
                            case rel => exact ⟨(wrap64 (x1_3 + 1)), (wrap64 ((wrap64 (x7_3 * x6_6)) + t193)), (by first | rfl | (simp; done) | (rw [Go.IntWalk.wrap64_in (x1_3 + 1) (by omega)]; done) | (rw [Go.IntWalk.wrap64_in (x1_3 + 1) (by omega)]; simp; done) | (simp [*]; done)), (by first | rfl | (simp; done) | (rw [Go.IntWalk.wrap64_in (x1_3 + 1) (by omega)]; done) | (rw [Go.IntWalk.wrap64_in (x1_3 + 1) (by omega)]; simp; done) | (simp [*]; done)), H', ⟨by have := HJ2.out; have := HJ6.out; have := HK3.out; have := HJ12.out; omega⟩, ⟨by repeat (first | (with_reducible first | exact HB.out | apply below_alloc | apply pw_below_drewN | apply below_drew1) | exact HB.out)⟩⟩
                  · rw [if_neg c11] at H
                    exact absurd H (by simp)
                · rw [if_neg c10] at H
                  have c10b0 : decide (x1_3 < (l0.length : Int)) = false := decide_eq_false c10
                  clear c10
                  (first | rw [c10b0] | (simp only [i64_w, i32_w]; rw [c10b0]) | skip)
                  have H' := Aside0.mk H
                  clear H
                  go_wp2
                  go_meet
                  case rel => exact ⟨_, (x1_3), (x7_3), (by first | rfl | (simp; done) | (simp [*]; done)), (by first | rfl | (simp; done) | (simp [*]; done)), H', ⟨by have := HJ2.out; have := HJ6.out; have := HK3.out; first | omega | exact Nat.le_refl _⟩, ⟨by repeat (first | (with_reducible first | exact HB.out | apply below_alloc | apply pw_below_drewN | apply below_drew1) | exact HB.out)⟩⟩
          case rest =>
            clear HC9
            try clear c1
            try clear p1
            try clear q1
            try clear hx1
            try clear p2
            try clear c3
            try clear c4
            try clear c4b0
            try clear c5
            try clear c5b0
            try clear c6
            try clear c6b0
            try clear c6b1
            try clear p6
            try clear c8
            try clear c10
            try clear c10b0
            try clear c11
            try clear c11b0
            try clear c14
            try clear c14b0
            try clear c15
            try clear c16
            try clear c16b0
            try clear hx190_0
            try clear hx191_0
            try clear hx192_0
            try clear p1
            try clear p190
            try clear p191
            try clear p192
            try clear p2
            try clear p6
            try clear q1
            try clear q190
            try clear q191
            try clear q192
            obtain ⟨kq, x1_8, x7_8, rfl, rfl, HA, HJ8, HB⟩ := hcut
            cases kq with
            | zero => exact absurd HA.out (by simp [decanterref05_byNumber.j4])
            | succ kj8 =>
              have H := HA.out
              clear HA
              simp only [decanterref05_byNumber.j4] at H
              by_cases c17 : x1_8 = x1_6
              · rw [if_pos c17] at H
                have c17b0 : (x1_8 == x1_6) = true := beq_iff_eq.mpr c17
                have c17b1 : (x1_8 != x1_6) = false := bne_eq_false_iff_eq.mpr c17
                clear c17
                simp only [Option.some.injEq, Prod.mk.injEq] at H
                obtain ⟨rfl, rfl⟩ := H
                go_wp2
                go_ret2
                exact ⟨by first | rfl | (simp [errW_none, errW_some] <;> rfl) | (simp [*, errW_none, errW_some] <;> rfl), by repeat (first | (with_reducible first | exact HB.out | apply below_alloc | apply pw_below_drewN | apply below_drew1) | exact HB.out)⟩
              · rw [if_neg c17] at H
                have c17b0 : (x1_8 == x1_6) = false := beq_eq_false_iff_ne.mpr c17
                have c17b1 : (x1_8 != x1_6) = true := bne_iff_ne.mpr c17
                by_cases c18 : x1_8 < (l0.length : Int)
                · rw [if_pos c18] at H
                  have c18b0 : decide (x1_8 < (l0.length : Int)) = true := decide_eq_true c18
                  clear c18
                  by_cases c19 : 0 ≤ x1_8
                  · rw [if_pos c19] at H
                    have c19b0 : decide (0 ≤ x1_8) = true := decide_eq_true c19
                    clear c19
                    by_cases c20 : (rd l0 x1_8) = 59
                    · rw [if_pos c20] at H
                      have c20b0 : ((rd l0 x1_8) == 59) = true := beq_iff_eq.mpr c20
                      have c20b1 : ((rd l0 x1_8) != 59) = false := bne_eq_false_iff_eq.mpr c20
                      clear c20
                      replace H := Option.bind_eq_some_iff.mp H
                      obtain ⟨t195, A210, H⟩ := H
                      replace H : (some (t195, wrap64 (x1_8 + 1))) = some (r1, r2) := H
                      have A21 := Aside0.mk A210
                      clear A210
                      simp only [Option.some.injEq, Prod.mk.injEq] at H
                      obtain ⟨rfl, rfl⟩ := H
                      have p194 : 0 ≤ (x1_8 : Int) := of_decide_eq_true (by first | (with_reducible assumption) | assumption)
                      have q194 : x1_8 < (l0.length : Int) := of_decide_eq_true (by first | (with_reducible assumption) | assumption)
                      obtain ⟨ad194, e194, hx194_0⟩ := Kd.at_int HR0.out x1_8 p194 q194
                      cases e194
                      replace hx194_0 := (HB.out.cell (World.block_lt_of_cell? w _ hx194_0)).trans hx194_0
                      replace p194 := eq_true p194
                      replace q194 := eq_true q194
                      go_wp2_with (first | ((with_reducible refine gate_callee (f := 26) rfl ?_); refine goesL_ (some 74) rfl rfl Tryd.func26 (by kernel_rfl) rfl #[.int .i64 x7_8] rfl (by (try simp only [List.map_toArray, List.map_cons, List.map_nil]); first | done | rfl | (simp only [List.length_drop, List.length_take]; rfl)) ?_; (with_reducible refine (decanterref05_Point.calls kj8 x7_8 t195 _ A21.out).mono ?_); rintro e w22 ⟨rfl, hb⟩; refine ⟨_, rfl, ?_⟩; have n0_ := Aside0.mk (below_step (by repeat (first | (with_reducible first | exact HB.out | apply below_alloc | apply pw_below_drewN | apply below_drew1) | exact HB.out)) hb); clear HB; have HB := n0_; clear n0_; (try clear hb); (try clear hb2); (try clear hk); (try clear hi)))
                      go_ret2
                      exact ⟨by first | rfl | (simp [errW_none, errW_some] <;> rfl) | (simp [*, errW_none, errW_some] <;> rfl), by repeat (first | (with_reducible first | exact HB.out | apply below_alloc | apply pw_below_drewN | apply below_drew1) | exact HB.out)⟩
                    · rw [if_neg c20] at H
                      have c20b0 : ((rd l0 x1_8) == 59) = false := beq_eq_false_iff_ne.mpr c20
                      have c20b1 : ((rd l0 x1_8) != 59) = true := bne_iff_ne.mpr c20
                      replace H := Option.bind_eq_some_iff.mp H
                      obtain ⟨t196, A230, H⟩ := H
                      replace H : (some (t196, x1_8)) = some (r1, r2) := H
                      have A23 := Aside0.mk A230
                      clear A230
                      simp only [Option.some.injEq, Prod.mk.injEq] at H
                      obtain ⟨rfl, rfl⟩ := H
                      have p194 : 0 ≤ (x1_8 : Int) := of_decide_eq_true (by first | (with_reducible assumption) | assumption)
                      have q194 : x1_8 < (l0.length : Int) := of_decide_eq_true (by first | (with_reducible assumption) | assumption)
                      obtain ⟨ad194, e194, hx194_0⟩ := Kd.at_int HR0.out x1_8 p194 q194
                      cases e194
                      replace hx194_0 := (HB.out.cell (World.block_lt_of_cell? w _ hx194_0)).trans hx194_0
                      replace p194 := eq_true p194
                      replace q194 := eq_true q194
                      go_wp2_with (first | ((with_reducible refine gate_callee (f := 26) rfl ?_); refine goesL_ (some 74) rfl rfl Tryd.func26 (by kernel_rfl) rfl #[.int .i64 x7_8] rfl (by (try simp only [List.map_toArray, List.map_cons, List.map_nil]); first | done | rfl | (simp only [List.length_drop, List.length_take]; rfl)) ?_; (with_reducible refine (decanterref05_Point.calls kj8 x7_8 t196 _ A23.out).mono ?_); rintro e w24 ⟨rfl, hb⟩; refine ⟨_, rfl, ?_⟩; have n0_ := Aside0.mk (below_step (by repeat (first | (with_reducible first | exact HB.out | apply below_alloc | apply pw_below_drewN | apply below_drew1) | exact HB.out)) hb); clear HB; have HB := n0_; clear n0_; (try clear hb); (try clear hb2); (try clear hk); (try clear hi)))
                      go_ret2
                      exact ⟨by first | rfl | (simp [errW_none, errW_some] <;> rfl) | (simp [*, errW_none, errW_some] <;> rfl), by repeat (first | (with_reducible first | exact HB.out | apply below_alloc | apply pw_below_drewN | apply below_drew1) | exact HB.out)⟩
                  · rw [if_neg c19] at H
                    exact absurd H (by simp)
                · rw [if_neg c18] at H
                  have c18b0 : decide (x1_8 < (l0.length : Int)) = false := decide_eq_false c18
                  clear c18
                  replace H := Option.bind_eq_some_iff.mp H
                  obtain ⟨t197, A250, H⟩ := H
                  replace H : (some (t197, x1_8)) = some (r1, r2) := H
                  have A25 := Aside0.mk A250
                  clear A250
                  simp only [Option.some.injEq, Prod.mk.injEq] at H
                  obtain ⟨rfl, rfl⟩ := H
                  go_wp2_with (first | ((with_reducible refine gate_callee (f := 26) rfl ?_); refine goesL_ (some 74) rfl rfl Tryd.func26 (by kernel_rfl) rfl #[.int .i64 x7_8] rfl (by (try simp only [List.map_toArray, List.map_cons, List.map_nil]); first | done | rfl | (simp only [List.length_drop, List.length_take]; rfl)) ?_; (with_reducible refine (decanterref05_Point.calls kj8 x7_8 t197 _ A25.out).mono ?_); rintro e w26 ⟨rfl, hb⟩; refine ⟨_, rfl, ?_⟩; have n0_ := Aside0.mk (below_step (by repeat (first | (with_reducible first | exact HB.out | apply below_alloc | apply pw_below_drewN | apply below_drew1) | exact HB.out)) hb); clear HB; have HB := n0_; clear n0_; (try clear hb); (try clear hb2); (try clear hk); (try clear hi)))
                  go_ret2
                  exact ⟨by first | rfl | (simp [errW_none, errW_some] <;> rfl) | (simp [*, errW_none, errW_some] <;> rfl), by repeat (first | (with_reducible first | exact HB.out | apply below_alloc | apply pw_below_drewN | apply below_drew1) | exact HB.out)⟩

/-! ### decanterref03_Letter: function 38 -/
def decanterref03_Letter.f (a0 : Int) : Option (Bool) := if a0 ≥ 65 then (if a0 ≤ 90 then (some true) else (if a0 ≥ 97 then (some (decide (a0 ≤ 122))) else (some false))) else (if a0 ≥ 97 then (some (decide (a0 ≤ 122))) else (some false))
set_option maxHeartbeats 8000000 in
set_option maxRecDepth 100000 in
theorem decanterref03_Letter.calls (a0 : Int) (r : Bool) (w : World) (h : decanterref03_Letter.f a0 = some r) :
    Calls Tryd.prog 38 #[.int .i64 a0] w fun e w' => e = .returned (.bool r) ∧ Drawn0 w w' := by
  have H : (if a0 ≥ 65 then (if a0 ≤ 90 then (some true) else (if a0 ≥ 97 then (some (decide (a0 ≤ 122))) else (some false))) else (if a0 ≥ 97 then (some (decide (a0 ≤ 122))) else (some false))) = some r := h
  clear h
  by_cases c2 : a0 ≥ 65
  · rw [if_pos c2] at H
    have c2b0 : decide (65 ≤ a0) = true := decide_eq_true c2
    clear c2
    by_cases c3 : a0 ≤ 90
    · rw [if_pos c3] at H
      have c3b0 : decide (a0 ≤ 90) = true := decide_eq_true c3
      clear c3
      obtain rfl := Option.some.inj H
      go_enter Tryd.func38, Tryd.ntmps38
      go_wp2
      go_ret
      exact ⟨by first | rfl | (simp; done) | (simp [*]; done), by repeat (first | exact Drawn0.refl _ | apply Drawn0.step)⟩
    · rw [if_neg c3] at H
      have c3b0 : decide (a0 ≤ 90) = false := decide_eq_false c3
      clear c3
      by_cases c4 : a0 ≥ 97
      · rw [if_pos c4] at H
        have c4b0 : decide (97 ≤ a0) = true := decide_eq_true c4
        clear c4
        obtain rfl := Option.some.inj H
        go_enter Tryd.func38, Tryd.ntmps38
        go_wp2
        go_ret
        exact ⟨by first | rfl | (simp; done) | (simp [*]; done), by repeat (first | exact Drawn0.refl _ | apply Drawn0.step)⟩
      · rw [if_neg c4] at H
        have c4b0 : decide (97 ≤ a0) = false := decide_eq_false c4
        clear c4
        obtain rfl := Option.some.inj H
        go_enter Tryd.func38, Tryd.ntmps38
        go_wp2
        go_ret
        exact ⟨by first | rfl | (simp; done) | (simp [*]; done), by repeat (first | exact Drawn0.refl _ | apply Drawn0.step)⟩
  · rw [if_neg c2] at H
    have c2b0 : decide (65 ≤ a0) = false := decide_eq_false c2
    clear c2
    by_cases c5 : a0 ≥ 97
    · rw [if_pos c5] at H
      have c5b0 : decide (97 ≤ a0) = true := decide_eq_true c5
      clear c5
      obtain rfl := Option.some.inj H
      go_enter Tryd.func38, Tryd.ntmps38
      go_wp2
      go_ret
      exact ⟨by first | rfl | (simp; done) | (simp [*]; done), by repeat (first | exact Drawn0.refl _ | apply Drawn0.step)⟩
    · rw [if_neg c5] at H
      have c5b0 : decide (97 ≤ a0) = false := decide_eq_false c5
      clear c5
      obtain rfl := Option.some.inj H
      go_enter Tryd.func38, Tryd.ntmps38
      go_wp2
      go_ret
      exact ⟨by first | rfl | (simp; done) | (simp [*]; done), by repeat (first | exact Drawn0.refl _ | apply Drawn0.step)⟩

end Go.Proofs.YtnmjocoopbfpnaaDoor.PRefA
