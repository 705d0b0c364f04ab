-- Laid by a program of this session (tools/patch_print.py) out of the translation. Not trusted: Lean checks it.
import Derived.IntWalk
import Derived.Test.YtnmjocoopbfpnaaDoorPRefAx0
import Derived.Test.YtnmjocoopbfpnaaDoorPRefAx1
import Derived.Test.YtnmjocoopbfpnaaDoorPRefAx4
import Derived.Test.YtnmjocoopbfpnaaDoorPRefAx5
import Derived.Test.YtnmjocoopbfpnaaDoorPRefAx6
namespace Go.Proofs.YtnmjocoopbfpnaaDoor.PRefA
open Go.RowKit Go.Proofs.YtnmjocoopbfpnaaDoorW.PrintWords Go.Proofs.YtnmjocoopbfpnaaDoorW.PrintLast Go.Proofs.YtnmjocoopbfpnaaDoorW.PrintMore
attribute [local go_sem] max2_int min2_int max_two min_two max_three min_three max_four min_four   -- for this text's walks alone
set_option linter.unusedVariables false
set_option linter.unusedSimpArgs false

/-! ### decanterref05_Read: function 23 -/
mutual
def decanterref05_Read.j0 : Nat → List Int → Int → Bool → Bool → Option (ByteArray × Int)
  | 0, _, _, _, _ => none
  | k + 1, x0, x1, x2, x28 => if x28 = true then (some ((⟨#[]⟩ : ByteArray), (-1))) else (if (wrap64 (x1 + 1)) < (x0.length : Int) then (if 0 ≤ (wrap64 (x1 + 1)) then (decanterref05_Read.j1 k x0 x1 x2 ((rd x0 (wrap64 (x1 + 1))) == 35)) else (none)) else (decanterref05_Read.j1 k x0 x1 x2 false))
def decanterref05_Read.j1 : Nat → List Int → Int → Bool → Bool → Option (ByteArray × Int)
  | 0, _, _, _, _ => none
  | k + 1, x0, x1, x2, x41 => if x41 = true then ((decanterref05_byNumber.f k x0 (wrap64 (x1 + 2))).bind fun bt200 => (if bt200.2 < 0 then (some ((⟨#[]⟩ : ByteArray), (-1))) else ((decanterref02_UTF.f bt200.1).bind fun t202 => (some (strOfNums t202, bt200.2))))) else (if 0 ≤ (wrap64 (x1 + 1)) then (if (wrap64 (x1 + 1)) ≤ (x0.length : Int) then ((decanterref04_Find.f k (strOfNums (x0.drop ((wrap64 (x1 + 1)) : Int).toNat))).bind fun bt206 => (if bt206.1 = 0 then (some ((⟨#[]⟩ : ByteArray), (-1))) else (if x2 = true then (if 0 ≤ (wrap64 ((wrap64 ((wrap64 (x1 + 1)) + bt206.1)) - 1)) then (if (wrap64 ((wrap64 ((wrap64 (x1 + 1)) + bt206.1)) - 1)) < (x0.length : Int) then (if (rd x0 (wrap64 ((wrap64 ((wrap64 (x1 + 1)) + bt206.1)) - 1))) = 59 then (decanterref05_Read.j2 k x0 bt206.2 (wrap64 ((wrap64 (x1 + 1)) + bt206.1)) false) else (decanterref05_Read.j2 k x0 bt206.2 (wrap64 ((wrap64 (x1 + 1)) + bt206.1)) (decide ((wrap64 ((wrap64 (x1 + 1)) + bt206.1)) < (x0.length : Int))))) else (none)) else (none)) else (decanterref05_Read.j2 k x0 bt206.2 (wrap64 ((wrap64 (x1 + 1)) + bt206.1)) false)))) else (none)) else (none))
def decanterref05_Read.j2 : Nat → List Int → ByteArray → Int → Bool → Option (ByteArray × Int)
  | 0, _, _, _, _ => none
  | k + 1, x0, x11, x12, x84 => if x84 = true then (if 0 ≤ x12 then (if x12 < (x0.length : Int) then (if (wrap64 (rd x0 x12)) = 61 then (some ((⟨#[]⟩ : ByteArray), (-1))) else ((decanterref03_Letter.f (wrap64 (rd x0 x12))).bind fun t210 => (if t210 = true then (some ((⟨#[]⟩ : ByteArray), (-1))) else ((decanterref03_Digit.f (wrap64 (rd x0 x12))).bind fun t211 => (if t211 = true then (some ((⟨#[]⟩ : ByteArray), (-1))) else (some (x11, x12))))))) else (none)) else (none)) else (some (x11, x12))
end
def decanterref05_Read.f (k : Nat) (l0 : List Int) (a1 : Int) (a2 : Bool) : Option (ByteArray × Int) := if a1 < 0 then (decanterref05_Read.j0 k l0 a1 a2 true) else (if a1 ≥ (l0.length : Int) then (decanterref05_Read.j0 k l0 a1 a2 true) else (if 0 ≤ a1 then (if a1 < (l0.length : Int) then (decanterref05_Read.j0 k l0 a1 a2 ((rd l0 a1) != 38)) else (none)) else (none)))
theorem decanterref05_Read.mono_l : ∀ k, (∀ y0 y1 y2 y3, LeO (decanterref05_Read.j0 k y0 y1 y2 y3) (decanterref05_Read.j0 (k + 1) y0 y1 y2 y3)) ∧ (∀ y0 y1 y2 y3, LeO (decanterref05_Read.j1 k y0 y1 y2 y3) (decanterref05_Read.j1 (k + 1) y0 y1 y2 y3)) ∧ (∀ y0 y1 y2 y3, LeO (decanterref05_Read.j2 k y0 y1 y2 y3) (decanterref05_Read.j2 (k + 1) y0 y1 y2 y3))
  | 0 => ⟨fun _ _ _ _ r h => by simp [decanterref05_Read.j0] at h, fun _ _ _ _ r h => by simp [decanterref05_Read.j1] at h, fun _ _ _ _ r h => by simp [decanterref05_Read.j2] at h⟩
  | k + 1 => by
    obtain ⟨ih0, ih1, ih2⟩ := decanterref05_Read.mono_l k
    refine ⟨?_, ?_, ?_⟩
    · intro y0 y1 y2 y3
      unfold decanterref05_Read.j0
      repeat' first
      | (with_reducible exact ih0 _ _ _ _)
      | (with_reducible exact ih1 _ _ _ _)
      | (with_reducible exact ih2 _ _ _ _)
      | (with_reducible exact decanterref04_Find.mono _ _)
      | (with_reducible exact decanterref05_byNumber.mono _ _ _)
      | (with_reducible exact LeO.refl _)
      | (with_reducible exact LeO.none _)
      | (with_reducible refine LeO.ite ?_ ?_)
      | (with_reducible refine LeO.bind ?_ (fun _ => ?_))
      | exact ih0 _ _ _ _
      | exact ih1 _ _ _ _
      | exact ih2 _ _ _ _
      | exact decanterref04_Find.mono _ _
      | exact decanterref05_byNumber.mono _ _ _
      | exact LeO.none _
      | refine LeO.ite ?_ ?_
      | refine LeO.bind ?_ (fun _ => ?_)
    · intro y0 y1 y2 y3
      unfold decanterref05_Read.j1
      repeat' first
      | (with_reducible exact ih0 _ _ _ _)
      | (with_reducible exact ih1 _ _ _ _)
      | (with_reducible exact ih2 _ _ _ _)
      | (with_reducible exact decanterref04_Find.mono _ _)
      | (with_reducible exact decanterref05_byNumber.mono _ _ _)
      | (with_reducible exact LeO.refl _)
      | (with_reducible exact LeO.none _)
      | (with_reducible refine LeO.ite ?_ ?_)
      | (with_reducible refine LeO.bind ?_ (fun _ => ?_))
      | exact ih0 _ _ _ _
      | exact ih1 _ _ _ _
      | exact ih2 _ _ _ _
      | exact decanterref04_Find.mono _ _
      | exact decanterref05_byNumber.mono _ _ _
      | exact LeO.none _
      | refine LeO.ite ?_ ?_
      | refine LeO.bind ?_ (fun _ => ?_)
    · intro y0 y1 y2 y3
      unfold decanterref05_Read.j2
      repeat' first
      | (with_reducible exact ih0 _ _ _ _)
      | (with_reducible exact ih1 _ _ _ _)
      | (with_reducible exact ih2 _ _ _ _)
      | (with_reducible exact decanterref04_Find.mono _ _)
      | (with_reducible exact decanterref05_byNumber.mono _ _ _)
      | (with_reducible exact LeO.refl _)
      | (with_reducible exact LeO.none _)
      | (with_reducible refine LeO.ite ?_ ?_)
      | (with_reducible refine LeO.bind ?_ (fun _ => ?_))
      | exact ih0 _ _ _ _
      | exact ih1 _ _ _ _
      | exact ih2 _ _ _ _
      | exact decanterref04_Find.mono _ _
      | exact decanterref05_byNumber.mono _ _ _
      | exact LeO.none _
      | refine LeO.ite ?_ ?_
      | refine LeO.bind ?_ (fun _ => ?_)
theorem decanterref05_Read.mono : ∀ a0 a1 a2 k, LeO (decanterref05_Read.f k a0 a1 a2) (decanterref05_Read.f (k + 1) a0 a1 a2) := by
  intro a0 a1 a2 k
  obtain ⟨ih0, ih1, ih2⟩ := decanterref05_Read.mono_l k
  unfold decanterref05_Read.f
  repeat' first
      | (with_reducible exact ih0 _ _ _ _)
      | (with_reducible exact ih1 _ _ _ _)
      | (with_reducible exact ih2 _ _ _ _)
      | (with_reducible exact decanterref04_Find.mono _ _)
      | (with_reducible exact decanterref05_byNumber.mono _ _ _)
      | (with_reducible exact LeO.refl _)
      | (with_reducible exact LeO.none _)
      | (with_reducible refine LeO.ite ?_ ?_)
      | (with_reducible refine LeO.bind ?_ (fun _ => ?_))
      | exact ih0 _ _ _ _
      | exact ih1 _ _ _ _
      | exact ih2 _ _ _ _
      | exact decanterref04_Find.mono _ _
      | exact decanterref05_byNumber.mono _ _ _
      | exact LeO.none _
      | refine LeO.ite ?_ ?_
      | refine LeO.bind ?_ (fun _ => ?_)
set_option maxHeartbeats 8000000 in
set_option maxRecDepth 100000 in
theorem decanterref05_Read.calls (k : Nat) (A0 : Option Addr) (c0 : Nat) (l0 : List Int) (a1 : Int) (a2 : Bool) (r1 : ByteArray) (r2 : Int) (w : World) (hW : Wok w) (hr0 : Kd.C (Kd.int .u8) w A0 l0.length l0) (hc0 : l0.length ≤ c0) (h : decanterref05_Read.f k l0 a1 a2 = some (r1, r2)) :
    Calls Tryd.prog 23 #[.slice A0 l0.length c0, .int .i64 a1, .bool a2] w fun e w' => e = .returned (.tuple #[.string r1, .int .i64 r2]) ∧ Below w.heap.size w w' := by
  have HR0 := Aside0.mk hr0
  have HC0 := Aside0.mk hc0
  clear hr0 hc0
  have HB := Aside0.mk (Below.refl w.heap.size w)
  have H : (if a1 < 0 then (decanterref05_Read.j0 k l0 a1 a2 true) else (if a1 ≥ (l0.length : Int) then (decanterref05_Read.j0 k l0 a1 a2 true) else (if 0 ≤ a1 then (if a1 < (l0.length : Int) then (decanterref05_Read.j0 k l0 a1 a2 ((rd l0 a1) != 38)) else (none)) else (none)))) = some (r1, r2) := h
  clear h
  have HC4 := Aside0.mk H
  clear H
  go_enter Tryd.func23, Tryd.ntmps23
  go_upto_region 1 with (fail)
  go_cut [28] (fun v28 wc => ∃ (kq : Nat) (x28_3 : Bool), v28 = .bool x28_3 ∧ Aside0 (decanterref05_Read.j0 kq l0 a1 a2 x28_3 = some (r1, r2)) ∧ Aside0 (kq ≤ k) ∧ Aside0 (Below w.heap.size w wc))
  case first =>
    have H := HC4.out
    clear HC4
    by_cases c5 : a1 < 0
    · rw [if_pos c5] at H
      have c5b0 : decide (a1 < 0) = true := decide_eq_true c5
      clear c5
      (first | rw [c5b0] | (simp only [i64_w, i32_w]; rw [c5b0]) | skip)
      have H' := Aside0.mk H
      clear H
      go_wp2
      go_meet
      case rel => exact ⟨_, (true), (by first | rfl | (simp; done) | (simp [*]; done)), H', ⟨by first | omega | exact Nat.le_refl _⟩, ⟨by repeat (first | (with_reducible first | exact HB.out | apply below_alloc | apply pw_below_drewN | apply below_drew1) | exact HB.out)⟩⟩
    · rw [if_neg c5] at H
      have c5b0 : decide (a1 < 0) = false := decide_eq_false c5
      clear c5
      (first | rw [c5b0] | (simp only [i64_w, i32_w]; rw [c5b0]) | skip)
      by_cases c6 : a1 ≥ (l0.length : Int)
      · rw [if_pos c6] at H
        have c6b0 : decide ((l0.length : Int) ≤ a1) = true := decide_eq_true c6
        clear c6
        have H' := Aside0.mk H
        clear H
        go_wp2
        go_meet
        case rel => exact ⟨_, (true), (by first | rfl | (simp; done) | (simp [*]; done)), H', ⟨by first | omega | exact Nat.le_refl _⟩, ⟨by repeat (first | (with_reducible first | exact HB.out | apply below_alloc | apply pw_below_drewN | apply below_drew1) | exact HB.out)⟩⟩
      · rw [if_neg c6] at H
        have c6b0 : decide ((l0.length : Int) ≤ a1) = false := decide_eq_false c6
        clear c6
        by_cases c7 : 0 ≤ a1
        · rw [if_pos c7] at H
          have c7b0 : decide (0 ≤ a1) = true := decide_eq_true c7
          clear c7
          by_cases c8 : a1 < (l0.length : Int)
          · rw [if_pos c8] at H
            have c8b0 : decide (a1 < (l0.length : Int)) = true := decide_eq_true c8
            clear c8
            have H' := Aside0.mk H
            clear H
            have p198 : 0 ≤ (a1 : Int) := of_decide_eq_true (by first | (with_reducible assumption) | assumption)
            have q198 : a1 < (l0.length : Int) := of_decide_eq_true (by first | (with_reducible assumption) | assumption)
            obtain ⟨ad198, e198, hx198_0⟩ := Kd.at_int HR0.out a1 p198 q198
            cases e198
            replace hx198_0 := (HB.out.cell (World.block_lt_of_cell? w _ hx198_0)).trans hx198_0
            replace p198 := eq_true p198
            replace q198 := eq_true q198
            go_wp2
            go_meet
            case rel => exact ⟨_, (((rd l0 a1) != 38)), (by first | rfl | (simp; done) | (simp [*]; done)), H', ⟨by first | omega | exact Nat.le_refl _⟩, ⟨by repeat (first | (with_reducible first | exact HB.out | apply below_alloc | apply pw_below_drewN | apply below_drew1) | exact HB.out)⟩⟩
          · rw [if_neg c8] at H
            exact absurd H (by simp)
        · rw [if_neg c7] at H
          exact absurd H (by simp)
  case rest =>
    clear HC4
    try clear p1
    try clear q1
    try clear hx1
    try clear c2
    try clear p2
    try clear c5
    try clear c5b0
    try clear c6
    try clear c6b0
    try clear c7
    try clear c7b0
    try clear c8
    try clear c8b0
    try clear hx198_0
    try clear p198
    try clear q198
    obtain ⟨kq, x28_3, rfl, HA, HJ3, HB⟩ := hcut
    cases kq with
    | zero => exact absurd HA.out (by simp [decanterref05_Read.j0])
    | succ kj3 =>
      have H := HA.out
      clear HA
      simp only [decanterref05_Read.j0] at H
      by_cases c9 : x28_3 = true
      · subst c9
        have H1 : (some ((⟨#[]⟩ : ByteArray), (-1))) = some (r1, r2) := by rw [if_pos rfl] at H; exact H
        clear H
        have H := H1
        clear H1
        simp only [Option.some.injEq, Prod.mk.injEq] at H
        obtain ⟨rfl, rfl⟩ := H
        go_wp2
        go_ret2
        exact ⟨by first | rfl | (simp [errW_none, errW_some] <;> rfl) | (simp [*, errW_none, errW_some] <;> rfl), by repeat (first | (with_reducible first | exact HB.out | apply below_alloc | apply pw_below_drewN | apply below_drew1) | exact HB.out)⟩
      · replace c9 := Bool.eq_false_iff.mpr c9
        subst c9
        have H1 : (if (wrap64 (a1 + 1)) < (l0.length : Int) then (if 0 ≤ (wrap64 (a1 + 1)) then (decanterref05_Read.j1 kj3 l0 a1 a2 ((rd l0 (wrap64 (a1 + 1))) == 35)) else (none)) else (decanterref05_Read.j1 kj3 l0 a1 a2 false)) = some (r1, r2) := by rw [if_neg (show ¬ (false = true) by decide)] at H; exact H
        clear H
        have H := H1
        clear H1
        have HC10 := Aside0.mk H
        clear H
        go_upto_region 3 with (fail)
        go_cut [41] (fun v41 wc => ∃ (kq : Nat) (x41_9 : Bool), v41 = .bool x41_9 ∧ Aside0 (decanterref05_Read.j1 kq l0 a1 a2 x41_9 = some (r1, r2)) ∧ Aside0 (kq ≤ kj3) ∧ Aside0 (Below w.heap.size w wc))
        case first =>
          have H := HC10.out
          clear HC10
          by_cases c11 : (wrap64 (a1 + 1)) < (l0.length : Int)
          · rw [if_pos c11] at H
            have c11b0 : decide ((wrap64 (a1 + 1)) < (l0.length : Int)) = true := decide_eq_true c11
            clear c11
            (first | rw [c11b0] | (simp only [i64_w, i32_w]; rw [c11b0]) | skip)
            obtain ⟨ji12, hji12⟩ : ∃ j_ : Int, (wrap64 (a1 + 1)) = j_ := ⟨_, rfl⟩
            replace H : (if 0 ≤ (ji12) then (decanterref05_Read.j1 kj3 l0 a1 a2 ((rd l0 (ji12)) == 35)) else (none)) = some (r1, r2) := by first | (rw [hji12] at H; exact H) | (simp only [hji12] at H ⊢; exact H)
            (try rw [hji12] at c11b0)
            have hji12w : (IntKind.i64.wrap (a1 + 1)) = ji12 := (i64_w _).trans hji12
            by_cases c13 : 0 ≤ (ji12)
            · rw [if_pos c13] at H
              have c13b0 : decide (0 ≤ (ji12)) = true := decide_eq_true c13
              clear c13
              have H' := Aside0.mk H
              clear H
              have p199 : 0 ≤ ((ji12) : Int) := of_decide_eq_true (by first | (with_reducible assumption) | assumption)
              have q199 : (ji12) < (l0.length : Int) := of_decide_eq_true (by first | (with_reducible assumption) | assumption)
              obtain ⟨ad199, e199, hx199_0⟩ := Kd.at_int HR0.out (ji12) p199 q199
              cases e199
              replace hx199_0 := (HB.out.cell (World.block_lt_of_cell? w _ hx199_0)).trans hx199_0
              replace p199 := eq_true p199
              replace q199 := eq_true q199
              go_wp2
              go_meet
              case rel => exact ⟨_, (((rd l0 (ji12)) == 35)), (by first | rfl | (simp; done) | (simp only [← hji12] <;> (first | rfl | simp)) | (simp [*]; done)), H', ⟨by have := HJ3.out; first | omega | exact Nat.le_refl _⟩, ⟨by repeat (first | (with_reducible first | exact HB.out | apply below_alloc | apply pw_below_drewN | apply below_drew1) | exact HB.out)⟩⟩
            · rw [if_neg c13] at H
              exact absurd H (by simp)
          · rw [if_neg c11] at H
            have c11b0 : decide ((wrap64 (a1 + 1)) < (l0.length : Int)) = false := decide_eq_false c11
            clear c11
            (first | rw [c11b0] | (simp only [i64_w, i32_w]; rw [c11b0]) | skip)
            have H' := Aside0.mk H
            clear H
            go_wp2
            go_meet
            case rel => exact ⟨_, (false), (by first | rfl | (simp; done) | (simp [*]; done)), H', ⟨by have := HJ3.out; first | omega | exact Nat.le_refl _⟩, ⟨by repeat (first | (with_reducible first | exact HB.out | apply below_alloc | apply pw_below_drewN | apply below_drew1) | exact HB.out)⟩⟩
        case rest =>
          clear HC10
          try clear c1
          try clear p1
          try clear q1
          try clear hx1
          try clear c2
          try clear p2
          try clear c5
          try clear c5b0
          try clear c6
          try clear c6b0
          try clear p6
          try clear c7
          try clear c7b0
          try clear c8
          try clear c8b0
          try clear c9
          try clear c11
          try clear c11b0
          try clear c13
          try clear c13b0
          try clear hx198_0
          try clear hx199_0
          try clear p1
          try clear p198
          try clear p199
          try clear p2
          try clear q1
          try clear q198
          try clear q199
          obtain ⟨kq, x41_9, rfl, HA, HJ9, HB⟩ := hcut
          cases kq with
          | zero => exact absurd HA.out (by simp [decanterref05_Read.j1])
          | succ kj9 =>
            have H := HA.out
            clear HA
            simp only [decanterref05_Read.j1] at H
            by_cases c14 : x41_9 = true
            · subst c14
              have H1 : ((decanterref05_byNumber.f kj9 l0 (wrap64 (a1 + 2))).bind fun bt200 => (if bt200.2 < 0 then (some ((⟨#[]⟩ : ByteArray), (-1))) else ((decanterref02_UTF.f bt200.1).bind fun t202 => (some (strOfNums t202, bt200.2))))) = some (r1, r2) := by rw [if_pos rfl] at H; exact H
              clear H
              have H := H1
              clear H1
              replace H := Option.bind_eq_some_iff.mp H
              obtain ⟨⟨t200, t201⟩, A150, H⟩ := H
              replace H : (if t201 < 0 then (some ((⟨#[]⟩ : ByteArray), (-1))) else ((decanterref02_UTF.f t200).bind fun t202 => (some (strOfNums t202, t201)))) = some (r1, r2) := H
              have A15 := Aside0.mk A150
              clear A150
              by_cases c16 : t201 < 0
              · rw [if_pos c16] at H
                have c16b0 : decide (t201 < 0) = true := decide_eq_true c16
                clear c16
                simp only [Option.some.injEq, Prod.mk.injEq] at H
                obtain ⟨rfl, rfl⟩ := H
                go_wp2_with (first | ((with_reducible refine gate_callee (f := 36) rfl ?_); refine goesL_ (some 46) rfl rfl Tryd.func36 (by kernel_rfl) rfl #[.slice A0 l0.length c0, .int .i64 (wrap64 (a1 + 2))] rfl (by (try simp only [List.map_toArray, List.map_cons, List.map_nil]); first | done | rfl | (simp only [List.length_drop, List.length_take]; rfl)) ?_; (with_reducible refine (decanterref05_byNumber.calls kj9 _ _ l0 (wrap64 (a1 + 2)) t200 t201 _ ?side1 ?side2 A15.out).mono ?_); (case side1 => repeat (first | exact (Kd.C_below HR0.out HB.out) | (with_reducible refine Kd.C_alloc ?_ _) | (with_reducible refine Kd.C_drewN ?_ _) | (with_reducible refine Kd.C_drew ?_))); (case side2 => exact HC0.out); rintro e w17 ⟨rfl, hb⟩; refine ⟨_, rfl, ?_⟩; have n0_ := Aside0.mk (below_step (by repeat (first | (with_reducible first | exact HB.out | apply below_alloc | apply pw_below_drewN | apply below_drew1) | exact HB.out)) hb); clear HB; have HB := n0_; clear n0_; (try clear hb); (try clear hb2); (try clear hk); (try clear hi)))
                go_ret2
                exact ⟨by first | rfl | (simp [errW_none, errW_some] <;> rfl) | (simp [*, errW_none, errW_some] <;> rfl), by repeat (first | (with_reducible first | exact HB.out | apply below_alloc | apply pw_below_drewN | apply below_drew1) | exact HB.out)⟩
              · rw [if_neg c16] at H
                have c16b0 : decide (t201 < 0) = false := decide_eq_false c16
                clear c16
                replace H := Option.bind_eq_some_iff.mp H
                obtain ⟨t202, A180, H⟩ := H
                replace H : (some (strOfNums t202, t201)) = some (r1, r2) := H
                have A18 := Aside0.mk A180
                clear A180
                simp only [Option.some.injEq, Prod.mk.injEq] at H
                obtain ⟨rfl, rfl⟩ := H
                go_wp2_with (first | ((with_reducible refine gate_callee (f := 36) rfl ?_); refine goesL_ (some 46) rfl rfl Tryd.func36 (by kernel_rfl) rfl #[.slice A0 l0.length c0, .int .i64 (wrap64 (a1 + 2))] rfl (by (try simp only [List.map_toArray, List.map_cons, List.map_nil]); first | done | rfl | (simp only [List.length_drop, List.length_take]; rfl)) ?_; (with_reducible refine (decanterref05_byNumber.calls kj9 _ _ l0 (wrap64 (a1 + 2)) t200 t201 _ ?side1 ?side2 A15.out).mono ?_); (case side1 => repeat (first | exact (Kd.C_below HR0.out HB.out) | (with_reducible refine Kd.C_alloc ?_ _) | (with_reducible refine Kd.C_drewN ?_ _) | (with_reducible refine Kd.C_drew ?_))); (case side2 => exact HC0.out); rintro e w19 ⟨rfl, hb⟩; refine ⟨_, rfl, ?_⟩; have n0_ := Aside0.mk (below_step (by repeat (first | (with_reducible first | exact HB.out | apply below_alloc | apply pw_below_drewN | apply below_drew1) | exact HB.out)) hb); clear HB; have HB := n0_; clear n0_; (try clear hb); (try clear hb2); (try clear hk); (try clear hi)) | ((with_reducible refine gate_callee (f := 37) rfl ?_); refine goesL_ (some 52) rfl rfl Tryd.func37 (by kernel_rfl) rfl #[.int .i64 t200] rfl (by (try simp only [List.map_toArray, List.map_cons, List.map_nil]); first | done | rfl | (simp only [List.length_drop, List.length_take]; rfl)) ?_; (with_reducible refine (decanterref02_UTF.calls t200 t202 _ A18.out).mono ?_); rintro e w20 ⟨v203, rfl, ho0, hb⟩; refine ⟨_, rfl, ?_⟩; have n0_ := Aside0.mk (Kd.R_lower ho0 (below_size (by repeat (first | (with_reducible first | exact HB.out | apply below_alloc | apply pw_below_drewN | apply below_drew1) | exact HB.out)))); have n1_ := Aside0.mk (below_step (by repeat (first | (with_reducible first | exact HB.out | apply below_alloc | apply pw_below_drewN | apply below_drew1) | exact HB.out)) hb); clear HB; have HO204 := n0_; have HB := n1_; clear n0_ n1_; (try clear hb); (try clear hb2); (try clear hk); (try clear hi); (try clear ho0); have hcv21 := own_string (P := Tryd.prog) Tryd.underlying37 Tryd.underlying5 Tryd.underlying9 (Kd.own_of_R HO204.out)))
                go_ret2
                exact ⟨by first | rfl | (simp [errW_none, errW_some] <;> rfl) | (simp [*, errW_none, errW_some] <;> rfl), by repeat (first | (with_reducible first | exact HB.out | apply below_alloc | apply pw_below_drewN | apply below_drew1) | exact HB.out)⟩
            · replace c14 := Bool.eq_false_iff.mpr c14
              subst c14
              have H1 : (if 0 ≤ (wrap64 (a1 + 1)) then (if (wrap64 (a1 + 1)) ≤ (l0.length : Int) then ((decanterref04_Find.f kj9 (strOfNums (l0.drop ((wrap64 (a1 + 1)) : Int).toNat))).bind fun bt206 => (if bt206.1 = 0 then (some ((⟨#[]⟩ : ByteArray), (-1))) else (if a2 = true then (if 0 ≤ (wrap64 ((wrap64 ((wrap64 (a1 + 1)) + bt206.1)) - 1)) then (if (wrap64 ((wrap64 ((wrap64 (a1 + 1)) + bt206.1)) - 1)) < (l0.length : Int) then (if (rd l0 (wrap64 ((wrap64 ((wrap64 (a1 + 1)) + bt206.1)) - 1))) = 59 then (decanterref05_Read.j2 kj9 l0 bt206.2 (wrap64 ((wrap64 (a1 + 1)) + bt206.1)) false) else (decanterref05_Read.j2 kj9 l0 bt206.2 (wrap64 ((wrap64 (a1 + 1)) + bt206.1)) (decide ((wrap64 ((wrap64 (a1 + 1)) + bt206.1)) < (l0.length : Int))))) else (none)) else (none)) else (decanterref05_Read.j2 kj9 l0 bt206.2 (wrap64 ((wrap64 (a1 + 1)) + bt206.1)) false)))) else (none)) else (none)) = some (r1, r2) := by rw [if_neg (show ¬ (false = true) by decide)] at H; exact H
              clear H
              have H := H1
              clear H1
              obtain ⟨ji22, hji22⟩ : ∃ j_ : Int, (wrap64 (a1 + 1)) = j_ := ⟨_, rfl⟩
              replace H : (if 0 ≤ (ji22) then (if (ji22) ≤ (l0.length : Int) then ((decanterref04_Find.f kj9 (strOfNums (l0.drop ((ji22) : Int).toNat))).bind fun bt206 => (if bt206.1 = 0 then (some ((⟨#[]⟩ : ByteArray), (-1))) else (if a2 = true then (if 0 ≤ (wrap64 ((wrap64 ((ji22) + bt206.1)) - 1)) then (if (wrap64 ((wrap64 ((ji22) + bt206.1)) - 1)) < (l0.length : Int) then (if (rd l0 (wrap64 ((wrap64 ((ji22) + bt206.1)) - 1))) = 59 then (decanterref05_Read.j2 kj9 l0 bt206.2 (wrap64 ((ji22) + bt206.1)) false) else (decanterref05_Read.j2 kj9 l0 bt206.2 (wrap64 ((ji22) + bt206.1)) (decide ((wrap64 ((ji22) + bt206.1)) < (l0.length : Int))))) else (none)) else (none)) else (decanterref05_Read.j2 kj9 l0 bt206.2 (wrap64 ((ji22) + bt206.1)) false)))) else (none)) else (none)) = some (r1, r2) := by first | (rw [hji22] at H; exact H) | (simp only [hji22] at H ⊢; exact H)
              have hji22w : (IntKind.i64.wrap (a1 + 1)) = ji22 := (i64_w _).trans hji22
              by_cases c23 : 0 ≤ (ji22)
              · rw [if_pos c23] at H
                have c23b0 := eq_true c23
                have c23b1 : decide (0 ≤ (ji22)) = true := decide_eq_true c23
                clear c23
                by_cases c24 : (ji22) ≤ (l0.length : Int)
                · rw [if_pos c24] at H
                  have c24b0 := eq_true c24
                  have c24b1 : decide ((ji22) ≤ (l0.length : Int)) = true := decide_eq_true c24
                  clear c24
                  replace H := Option.bind_eq_some_iff.mp H
                  obtain ⟨⟨t206, t207⟩, A250, H⟩ := H
                  replace H : (if t206 = 0 then (some ((⟨#[]⟩ : ByteArray), (-1))) else (if a2 = true then (if 0 ≤ (wrap64 ((wrap64 ((ji22) + t206)) - 1)) then (if (wrap64 ((wrap64 ((ji22) + t206)) - 1)) < (l0.length : Int) then (if (rd l0 (wrap64 ((wrap64 ((ji22) + t206)) - 1))) = 59 then (decanterref05_Read.j2 kj9 l0 t207 (wrap64 ((ji22) + t206)) false) else (decanterref05_Read.j2 kj9 l0 t207 (wrap64 ((ji22) + t206)) (decide ((wrap64 ((ji22) + t206)) < (l0.length : Int))))) else (none)) else (none)) else (decanterref05_Read.j2 kj9 l0 t207 (wrap64 ((ji22) + t206)) false))) = some (r1, r2) := H
                  have A25 := Aside0.mk A250
                  clear A250
                  by_cases c26 : t206 = 0
                  · rw [if_pos c26] at H
                    have c26b0 : (t206 == 0) = true := beq_iff_eq.mpr c26
                    have c26b1 : (t206 != 0) = false := bne_eq_false_iff_eq.mpr c26
                    clear c26
                    simp only [Option.some.injEq, Prod.mk.injEq] at H
                    obtain ⟨rfl, rfl⟩ := H
                    obtain ⟨i027, hi027, _, hsz27, _⟩ := info_parts info5
                    obtain ⟨A27, hcut27, hA27, hC27⟩ := print_drop_of (P := Tryd.prog) (Value.int .u8) 0 37 5 .i64 Tryd.underlying37 hi027 hsz27 A0 c0 l0 (ji22) (of_decide_eq_true (by first | (with_reducible assumption) | assumption)) (of_decide_eq_true (by first | (with_reducible assumption) | assumption)) HC0.out
                    have HR205 := Aside0.mk (Kd.C_of_reads (h1 := fun _ => rfl) (hA27 _ (Kd.reads_of_C HR0.out)))
                    have HC205 := Aside0.mk hC27
                    clear hA27 hC27 hi027 hsz27
                    generalize (l0.drop ((ji22) : Int).toNat) = D27 at *
                    have hcv28 := Kd.C_string (P := Tryd.prog) (A := A27) (c := (c0 - (ji22).toNat)) Tryd.underlying37 Tryd.underlying5 Tryd.underlying9 (Kd.C_below HR205.out HB.out)
                    have hcw28 := hcv28
                    (try simp only [Int.reduceToNat] at hcw28)
                    (try rw [show D27.length = (l0.length - (ji22).toNat) from List.length_drop] at hcw28)
                    go_wp2_with (first | ((with_reducible refine gate_callee (f := 15) rfl ?_); refine goesL_ (some 61) rfl rfl Tryd.func15 (by kernel_rfl) rfl #[.string (strOfNums D27)] rfl (by (try simp only [List.map_toArray, List.map_cons, List.map_nil]); first | done | (simp only [hji22]; rfl) | rfl | (simp only [List.length_drop, List.length_take]; rfl)) ?_; (with_reducible refine (decanterref04_Find.calls kj9 (strOfNums D27) t206 t207 _ (Wok_below hW (by repeat (first | (with_reducible first | exact HB.out | apply below_alloc | apply pw_below_drewN | apply below_drew1) | exact HB.out))) A25.out).mono ?_); rintro e w29 ⟨rfl, hb⟩; refine ⟨_, rfl, ?_⟩; have n0_ := Aside0.mk (below_step (by repeat (first | (with_reducible first | exact HB.out | apply below_alloc | apply pw_below_drewN | apply below_drew1) | exact HB.out)) hb); clear HB; have HB := n0_; clear n0_; (try clear hb); (try clear hb2); (try clear hk); (try clear hi)))
                    go_ret2
                    exact ⟨by first | rfl | (simp [errW_none, errW_some] <;> rfl) | (simp only [← hji22]; first | rfl | (simp [errW_none, errW_some] <;> rfl)) | (simp [*, errW_none, errW_some] <;> rfl), by repeat (first | (with_reducible first | exact HB.out | apply below_alloc | apply pw_below_drewN | apply below_drew1) | exact HB.out)⟩
                  · rw [if_neg c26] at H
                    have c26b0 : (t206 == 0) = false := beq_eq_false_iff_ne.mpr c26
                    have c26b1 : (t206 != 0) = true := bne_iff_ne.mpr c26
                    have HC30 := Aside0.mk H
                    clear H
                    obtain ⟨i031, hi031, _, hsz31, _⟩ := info_parts info5
                    obtain ⟨A31, hcut31, hA31, hC31⟩ := print_drop_of (P := Tryd.prog) (Value.int .u8) 0 37 5 .i64 Tryd.underlying37 hi031 hsz31 A0 c0 l0 (ji22) (of_decide_eq_true (by first | (with_reducible assumption) | assumption)) (of_decide_eq_true (by first | (with_reducible assumption) | assumption)) HC0.out
                    have HR205 := Aside0.mk (Kd.C_of_reads (h1 := fun _ => rfl) (hA31 _ (Kd.reads_of_C HR0.out)))
                    have HC205 := Aside0.mk hC31
                    clear hA31 hC31 hi031 hsz31
                    generalize (l0.drop ((ji22) : Int).toNat) = D31 at *
                    have hcv32 := Kd.C_string (P := Tryd.prog) (A := A31) (c := (c0 - (ji22).toNat)) Tryd.underlying37 Tryd.underlying5 Tryd.underlying9 (Kd.C_below HR205.out HB.out)
                    have hcw32 := hcv32
                    (try simp only [Int.reduceToNat] at hcw32)
                    (try rw [show D31.length = (l0.length - (ji22).toNat) from List.length_drop] at hcw32)
                    go_upto_region 12 with (first | ((with_reducible refine gate_callee (f := 15) rfl ?_); refine goesL_ (some 61) rfl rfl Tryd.func15 (by kernel_rfl) rfl #[.string (strOfNums D31)] rfl (by (try simp only [List.map_toArray, List.map_cons, List.map_nil]); first | done | (simp only [hji22]; rfl) | rfl | (simp only [List.length_drop, List.length_take]; rfl)) ?_; (with_reducible refine (decanterref04_Find.calls kj9 (strOfNums D31) t206 t207 _ (Wok_below hW (by repeat (first | (with_reducible first | exact HB.out | apply below_alloc | apply pw_below_drewN | apply below_drew1) | exact HB.out))) A25.out).mono ?_); rintro e w33 ⟨rfl, hb⟩; refine ⟨_, rfl, ?_⟩; have n0_ := Aside0.mk (below_step (by repeat (first | (with_reducible first | exact HB.out | apply below_alloc | apply pw_below_drewN | apply below_drew1) | exact HB.out)) hb); clear HB; have HB := n0_; clear n0_; (try clear hb); (try clear hb2); (try clear hk); (try clear hi)))
                    (try simp only [Act.put, List.setIfInBounds_toArray, List.set_cons_zero, List.set_cons_succ])
                    go_cut [84] (fun v84 wc => ∃ (kq : Nat) (x84_29 : Bool), v84 = .bool x84_29 ∧ Aside0 (decanterref05_Read.j2 kq l0 t207 (wrap64 ((ji22) + t206)) x84_29 = some (r1, r2)) ∧ Aside0 (kq ≤ kj9) ∧ Aside0 (Below w.heap.size w wc))
                    case first =>
                      have H := HC30.out
                      clear HC30
                      by_cases c34 : a2 = true
                      · subst c34
                        have H1 : (if 0 ≤ (wrap64 ((wrap64 ((ji22) + t206)) - 1)) then (if (wrap64 ((wrap64 ((ji22) + t206)) - 1)) < (l0.length : Int) then (if (rd l0 (wrap64 ((wrap64 ((ji22) + t206)) - 1))) = 59 then (decanterref05_Read.j2 kj9 l0 t207 (wrap64 ((ji22) + t206)) false) else (decanterref05_Read.j2 kj9 l0 t207 (wrap64 ((ji22) + t206)) (decide ((wrap64 ((ji22) + t206)) < (l0.length : Int))))) else (none)) else (none)) = some (r1, r2) := by rw [if_pos rfl] at H; exact H
                        clear H
                        have H := H1
                        clear H1
                        obtain ⟨ji35, hji35⟩ : ∃ j_ : Int, (wrap64 ((wrap64 ((ji22) + t206)) - 1)) = j_ := ⟨_, rfl⟩
                        replace H : (if 0 ≤ (ji35) then (if (ji35) < (l0.length : Int) then (if (rd l0 (ji35)) = 59 then (decanterref05_Read.j2 kj9 l0 t207 (wrap64 ((ji22) + t206)) false) else (decanterref05_Read.j2 kj9 l0 t207 (wrap64 ((ji22) + t206)) (decide ((wrap64 ((ji22) + t206)) < (l0.length : Int))))) else (none)) else (none)) = some (r1, r2) := by first | (rw [hji35] at H; exact H) | (simp only [hji35] at H ⊢; exact H)
                        have hji35w : (IntKind.i64.wrap ((wrap64 ((ji22) + t206)) - 1)) = ji35 := (i64_w _).trans hji35
                        by_cases c36 : 0 ≤ (ji35)
                        · rw [if_pos c36] at H
                          have c36b0 : decide (0 ≤ (ji35)) = true := decide_eq_true c36
                          clear c36
                          (first | rw [c36b0] | (simp only [i64_w, i32_w]; rw [c36b0]) | skip)
                          by_cases c37 : (ji35) < (l0.length : Int)
                          · rw [if_pos c37] at H
                            have c37b0 : decide ((ji35) < (l0.length : Int)) = true := decide_eq_true c37
                            clear c37
                            by_cases c38 : (rd l0 (ji35)) = 59
                            · rw [if_pos c38] at H
                              have c38b0 : ((rd l0 (ji35)) == 59) = true := beq_iff_eq.mpr c38
                              have c38b1 : ((rd l0 (ji35)) != 59) = false := bne_eq_false_iff_eq.mpr c38
                              clear c38
                              have H' := Aside0.mk H
                              clear H
                              have p208 : 0 ≤ ((ji35) : Int) := of_decide_eq_true (by first | (with_reducible assumption) | assumption)
                              have q208 : (ji35) < (l0.length : Int) := of_decide_eq_true (by first | (with_reducible assumption) | assumption)
                              obtain ⟨ad208, e208, hx208_0⟩ := Kd.at_int HR0.out (ji35) p208 q208
                              cases e208
                              replace hx208_0 := (HB.out.cell (World.block_lt_of_cell? w _ hx208_0)).trans hx208_0
                              replace p208 := eq_true p208
                              replace q208 := eq_true q208
                              go_wp2
                              go_meet
                              case rel => exact ⟨_, (false), (by first | rfl | (simp; done) | (simp [*]; done)), H', ⟨by have := HJ3.out; have := HJ9.out; first | omega | exact Nat.le_refl _⟩, ⟨by repeat (first | (with_reducible first | exact HB.out | apply below_alloc | apply pw_below_drewN | apply below_drew1) | exact HB.out)⟩⟩
                            · rw [if_neg c38] at H
                              have c38b0 : ((rd l0 (ji35)) == 59) = false := beq_eq_false_iff_ne.mpr c38
                              have c38b1 : ((rd l0 (ji35)) != 59) = true := bne_iff_ne.mpr c38
                              have H' := Aside0.mk H
                              clear H
                              have p208 : 0 ≤ ((ji35) : Int) := of_decide_eq_true (by first | (with_reducible assumption) | assumption)
                              have q208 : (ji35) < (l0.length : Int) := of_decide_eq_true (by first | (with_reducible assumption) | assumption)
                              obtain ⟨ad208, e208, hx208_0⟩ := Kd.at_int HR0.out (ji35) p208 q208
                              cases e208
                              replace hx208_0 := (HB.out.cell (World.block_lt_of_cell? w _ hx208_0)).trans hx208_0
                              replace p208 := eq_true p208
                              replace q208 := eq_true q208
                              go_wp2
                              go_meet
                              case rel => exact ⟨_, (decide ((wrap64 ((ji22) + t206)) < (l0.length : Int))), (by first | rfl | (simp; done) | (simp only [← hji22] <;> (first | rfl | simp)) | (rw [Go.IntWalk.wrap64_in ((ji22) + t206) (by omega)]; done) | (rw [Go.IntWalk.wrap64_in ((ji22) + t206) (by omega)]; simp; done) | (simp [*]; done)), H', ⟨by have := HJ3.out; have := HJ9.out; first | omega | exact Nat.le_refl _⟩, ⟨by repeat (first | (with_reducible first | exact HB.out | apply below_alloc | apply pw_below_drewN | apply below_drew1) | exact HB.out)⟩⟩
                          · rw [if_neg c37] at H
                            exact absurd H (by simp)
                        · rw [if_neg c36] at H
                          exact absurd H (by simp)
                      · replace c34 := Bool.eq_false_iff.mpr c34
                        subst c34
                        have H1 : (decanterref05_Read.j2 kj9 l0 t207 (wrap64 ((ji22) + t206)) false) = some (r1, r2) := by rw [if_neg (show ¬ (false = true) by decide)] at H; exact H
                        clear H
                        have H := H1
                        clear H1
                        have H' := Aside0.mk H
                        clear H
                        go_wp2
                        go_meet
                        case rel => exact ⟨_, (false), (by first | rfl | (simp; done) | (simp [*]; done)), H', ⟨by have := HJ3.out; have := HJ9.out; first | omega | exact Nat.le_refl _⟩, ⟨by repeat (first | (with_reducible first | exact HB.out | apply below_alloc | apply pw_below_drewN | apply below_drew1) | exact HB.out)⟩⟩
                    case rest =>
                      clear HC30
                      try clear c1
                      try clear p1
                      try clear q1
                      try clear hx1
                      try clear c2
                      try clear p2
                      try clear q2
                      try clear hx2
                      try clear hcv2
                      try clear c3
                      try clear hcv3
                      try clear c5
                      try clear c5b0
                      try clear c6
                      try clear c6b0
                      try clear p6
                      try clear c7
                      try clear c7b0
                      try clear c8
                      try clear c8b0
                      try clear c9
                      try clear c11
                      try clear c11b0
                      try clear c13
                      try clear c13b0
                      try clear c14
                      try clear c15
                      try clear c16
                      try clear c16b0
                      try clear p19
                      try clear q19
                      try clear hx19
                      try clear p20
                      try clear q20
                      try clear hx20
                      try clear hcv21
                      try clear c23
                      try clear c23b0
                      try clear c23b1
                      try clear c24
                      try clear c24b0
                      try clear c24b1
                      try clear c26
                      try clear c26b0
                      try clear c26b1
                      try clear hcv28
                      try clear hcv32
                      try clear c34
                      try clear c36
                      try clear c36b0
                      try clear c37
                      try clear c37b0
                      try clear c38
                      try clear c38b0
                      try clear c38b1
                      try clear hx198_0
                      try clear hx199_0
                      try clear hx208_0
                      try clear p1
                      try clear p198
                      try clear p199
                      try clear p2
                      try clear p208
                      try clear p6
                      try clear q1
                      try clear q198
                      try clear q199
                      try clear q208
                      obtain ⟨kq, x84_29, rfl, HA, HJ29, HB⟩ := hcut
                      cases kq with
                      | zero => exact absurd HA.out (by simp [decanterref05_Read.j2])
                      | succ kj29 =>
                        have H := HA.out
                        clear HA
                        simp only [decanterref05_Read.j2] at H
                        by_cases c39 : x84_29 = true
                        · subst c39
                          have H1 : (if 0 ≤ (wrap64 ((ji22) + t206)) then (if (wrap64 ((ji22) + t206)) < (l0.length : Int) then (if (wrap64 (rd l0 (wrap64 ((ji22) + t206)))) = 61 then (some ((⟨#[]⟩ : ByteArray), (-1))) else ((decanterref03_Letter.f (wrap64 (rd l0 (wrap64 ((ji22) + t206))))).bind fun t210 => (if t210 = true then (some ((⟨#[]⟩ : ByteArray), (-1))) else ((decanterref03_Digit.f (wrap64 (rd l0 (wrap64 ((ji22) + t206))))).bind fun t211 => (if t211 = true then (some ((⟨#[]⟩ : ByteArray), (-1))) else (some (t207, (wrap64 ((ji22) + t206))))))))) else (none)) else (none)) = some (r1, r2) := by rw [if_pos rfl] at H; exact H
                          clear H
                          have H := H1
                          clear H1
                          obtain ⟨ji40, hji40⟩ : ∃ j_ : Int, (wrap64 ((ji22) + t206)) = j_ := ⟨_, rfl⟩
                          replace H : (if 0 ≤ (ji40) then (if (ji40) < (l0.length : Int) then (if (wrap64 (rd l0 (ji40))) = 61 then (some ((⟨#[]⟩ : ByteArray), (-1))) else ((decanterref03_Letter.f (wrap64 (rd l0 (ji40)))).bind fun t210 => (if t210 = true then (some ((⟨#[]⟩ : ByteArray), (-1))) else ((decanterref03_Digit.f (wrap64 (rd l0 (ji40)))).bind fun t211 => (if t211 = true then (some ((⟨#[]⟩ : ByteArray), (-1))) else (some (t207, (ji40)))))))) else (none)) else (none)) = some (r1, r2) := by first | (rw [hji40] at H; exact H) | (simp only [hji40] at H ⊢; exact H)
                          have hji40w : (IntKind.i64.wrap ((ji22) + t206)) = ji40 := (i64_w _).trans hji40
                          by_cases c41 : 0 ≤ (ji40)
                          · rw [if_pos c41] at H
                            have c41b0 : decide (0 ≤ (ji40)) = true := decide_eq_true c41
                            clear c41
                            by_cases c42 : (ji40) < (l0.length : Int)
                            · rw [if_pos c42] at H
                              have c42b0 : decide ((ji40) < (l0.length : Int)) = true := decide_eq_true c42
                              clear c42
                              by_cases c43 : (wrap64 (rd l0 (ji40))) = 61
                              · rw [if_pos c43] at H
                                have c43b0 : ((wrap64 (rd l0 (ji40))) == 61) = true := beq_iff_eq.mpr c43
                                have c43b1 : ((wrap64 (rd l0 (ji40))) != 61) = false := bne_eq_false_iff_eq.mpr c43
                                clear c43
                                simp only [Option.some.injEq, Prod.mk.injEq] at H
                                obtain ⟨rfl, rfl⟩ := H
                                have p209 : 0 ≤ ((ji40) : Int) := of_decide_eq_true (by first | (with_reducible assumption) | assumption)
                                have q209 : (ji40) < (l0.length : Int) := of_decide_eq_true (by first | (with_reducible assumption) | assumption)
                                obtain ⟨ad209, e209, hx209_0⟩ := Kd.at_int HR0.out (ji40) p209 q209
                                cases e209
                                replace hx209_0 := (HB.out.cell (World.block_lt_of_cell? w _ hx209_0)).trans hx209_0
                                replace p209 := eq_true p209
                                replace q209 := eq_true q209
                                go_wp2
                                go_ret2
                                exact ⟨by first | rfl | (simp [errW_none, errW_some] <;> rfl) | (simp only [← hji22, ← hji40]; first | rfl | (simp [errW_none, errW_some] <;> rfl)) | (simp [*, errW_none, errW_some] <;> rfl), by repeat (first | (with_reducible first | exact HB.out | apply below_alloc | apply pw_below_drewN | apply below_drew1) | exact HB.out)⟩
                              · rw [if_neg c43] at H
                                have c43b0 : ((wrap64 (rd l0 (ji40))) == 61) = false := beq_eq_false_iff_ne.mpr c43
                                have c43b1 : ((wrap64 (rd l0 (ji40))) != 61) = true := bne_iff_ne.mpr c43
                                replace H := Option.bind_eq_some_iff.mp H
                                obtain ⟨t210, A440, H⟩ := H
                                replace H : (if t210 = true then (some ((⟨#[]⟩ : ByteArray), (-1))) else ((decanterref03_Digit.f (wrap64 (rd l0 (ji40)))).bind fun t211 => (if t211 = true then (some ((⟨#[]⟩ : ByteArray), (-1))) else (some (t207, (ji40)))))) = some (r1, r2) := H
                                have A44 := Aside0.mk A440
                                clear A440
                                by_cases c45 : t210 = true
                                · subst c45
                                  have H1 : (some ((⟨#[]⟩ : ByteArray), (-1))) = some (r1, r2) := by rw [if_pos rfl] at H; exact H
                                  clear H
                                  have H := H1
                                  clear H1
                                  simp only [Option.some.injEq, Prod.mk.injEq] at H
                                  obtain ⟨rfl, rfl⟩ := H
                                  have p209 : 0 ≤ ((ji40) : Int) := of_decide_eq_true (by first | (with_reducible assumption) | assumption)
                                  have q209 : (ji40) < (l0.length : Int) := of_decide_eq_true (by first | (with_reducible assumption) | assumption)
                                  obtain ⟨ad209, e209, hx209_0⟩ := Kd.at_int HR0.out (ji40) p209 q209
                                  cases e209
                                  replace hx209_0 := (HB.out.cell (World.block_lt_of_cell? w _ hx209_0)).trans hx209_0
                                  replace p209 := eq_true p209
                                  replace q209 := eq_true q209
                                  go_wp2_with (first | (go_at_call 38; (with_reducible refine (decanterref03_Letter.calls (wrap64 (rd l0 (ji40))) true _ A44.out).mono ?_); rintro e w' ⟨rfl, ⟨nd, rfl⟩⟩))
                                  go_ret2
                                  exact ⟨by first | rfl | (simp [errW_none, errW_some] <;> rfl) | (simp only [← hji22, ← hji40]; first | rfl | (simp [errW_none, errW_some] <;> rfl)) | (simp [*, errW_none, errW_some] <;> rfl), by repeat (first | (with_reducible first | exact HB.out | apply below_alloc | apply pw_below_drewN | apply below_drew1) | exact HB.out)⟩
                                · replace c45 := Bool.eq_false_iff.mpr c45
                                  subst c45
                                  have H1 : ((decanterref03_Digit.f (wrap64 (rd l0 (ji40)))).bind fun t211 => (if t211 = true then (some ((⟨#[]⟩ : ByteArray), (-1))) else (some (t207, (ji40))))) = some (r1, r2) := by rw [if_neg (show ¬ (false = true) by decide)] at H; exact H
                                  clear H
                                  have H := H1
                                  clear H1
                                  replace H := Option.bind_eq_some_iff.mp H
                                  obtain ⟨t211, A460, H⟩ := H
                                  replace H : (if t211 = true then (some ((⟨#[]⟩ : ByteArray), (-1))) else (some (t207, (ji40)))) = some (r1, r2) := H
                                  have A46 := Aside0.mk A460
                                  clear A460
                                  by_cases c47 : t211 = true
                                  · subst c47
                                    have H1 : (some ((⟨#[]⟩ : ByteArray), (-1))) = some (r1, r2) := by rw [if_pos rfl] at H; exact H
                                    clear H
                                    have H := H1
                                    clear H1
                                    simp only [Option.some.injEq, Prod.mk.injEq] at H
                                    obtain ⟨rfl, rfl⟩ := H
                                    have p209 : 0 ≤ ((ji40) : Int) := of_decide_eq_true (by first | (with_reducible assumption) | assumption)
                                    have q209 : (ji40) < (l0.length : Int) := of_decide_eq_true (by first | (with_reducible assumption) | assumption)
                                    obtain ⟨ad209, e209, hx209_0⟩ := Kd.at_int HR0.out (ji40) p209 q209
                                    cases e209
                                    replace hx209_0 := (HB.out.cell (World.block_lt_of_cell? w _ hx209_0)).trans hx209_0
                                    replace p209 := eq_true p209
                                    replace q209 := eq_true q209
                                    go_wp2_with (first | (go_at_call 38; (with_reducible refine (decanterref03_Letter.calls (wrap64 (rd l0 (ji40))) false _ A44.out).mono ?_); rintro e w' ⟨rfl, ⟨nd, rfl⟩⟩) | (go_at_call 39; (with_reducible refine (decanterref03_Digit.calls (wrap64 (rd l0 (ji40))) true _ A46.out).mono ?_); rintro e w' ⟨rfl, ⟨nd, rfl⟩⟩))
                                    go_ret2
                                    exact ⟨by first | rfl | (simp [errW_none, errW_some] <;> rfl) | (simp only [← hji22, ← hji40]; first | rfl | (simp [errW_none, errW_some] <;> rfl)) | (simp [*, errW_none, errW_some] <;> rfl), by repeat (first | (with_reducible first | exact HB.out | apply below_alloc | apply pw_below_drewN | apply below_drew1) | exact HB.out)⟩
                                  · replace c47 := Bool.eq_false_iff.mpr c47
                                    subst c47
                                    have H1 : (some (t207, (ji40))) = some (r1, r2) := by rw [if_neg (show ¬ (false = true) by decide)] at H; exact H
                                    clear H
                                    have H := H1
                                    clear H1
                                    simp only [Option.some.injEq, Prod.mk.injEq] at H
                                    obtain ⟨rfl, rfl⟩ := H
                                    have p209 : 0 ≤ ((ji40) : Int) := of_decide_eq_true (by first | (with_reducible assumption) | assumption)
                                    have q209 : (ji40) < (l0.length : Int) := of_decide_eq_true (by first | (with_reducible assumption) | assumption)
                                    obtain ⟨ad209, e209, hx209_0⟩ := Kd.at_int HR0.out (ji40) p209 q209
                                    cases e209
                                    replace hx209_0 := (HB.out.cell (World.block_lt_of_cell? w _ hx209_0)).trans hx209_0
                                    replace p209 := eq_true p209
                                    replace q209 := eq_true q209
                                    go_wp2_with (first | (go_at_call 38; (with_reducible refine (decanterref03_Letter.calls (wrap64 (rd l0 (ji40))) false _ A44.out).mono ?_); rintro e w' ⟨rfl, ⟨nd, rfl⟩⟩) | (go_at_call 39; (with_reducible refine (decanterref03_Digit.calls (wrap64 (rd l0 (ji40))) false _ A46.out).mono ?_); rintro e w' ⟨rfl, ⟨nd, rfl⟩⟩))
                                    go_ret2
                                    exact ⟨by first | rfl | (simp [errW_none, errW_some] <;> rfl) | (simp only [← hji22, ← hji40]; first | rfl | (simp [errW_none, errW_some] <;> rfl)) | (simp [*, errW_none, errW_some] <;> rfl), by repeat (first | (with_reducible first | exact HB.out | apply below_alloc | apply pw_below_drewN | apply below_drew1) | exact HB.out)⟩
                            · rw [if_neg c42] at H
                              exact absurd H (by simp)
                          · rw [if_neg c41] at H
                            exact absurd H (by simp)
                        · replace c39 := Bool.eq_false_iff.mpr c39
                          subst c39
                          have H1 : (some (t207, (wrap64 ((ji22) + t206)))) = some (r1, r2) := by rw [if_neg (show ¬ (false = true) by decide)] at H; exact H
                          clear H
                          have H := H1
                          clear H1
                          simp only [Option.some.injEq, Prod.mk.injEq] at H
                          obtain ⟨rfl, rfl⟩ := H
                          go_wp2
                          go_ret2
                          exact ⟨by first | rfl | (simp [errW_none, errW_some] <;> rfl) | (simp only [← hji22]; first | rfl | (simp [errW_none, errW_some] <;> rfl)) | (simp [*, errW_none, errW_some] <;> rfl), by repeat (first | (with_reducible first | exact HB.out | apply below_alloc | apply pw_below_drewN | apply below_drew1) | exact HB.out)⟩
                · rw [if_neg c24] at H
                  exact absurd H (by simp)
              · rw [if_neg c23] at H
                exact absurd H (by simp)

/-! ### decanterref02_more: function 60 -/
def decanterref02_more.f (l0 : List Int) (a1 : Int) : Option (Bool) := if a1 < (l0.length : Int) then (if 0 ≤ a1 then (if (rd l0 a1) ≥ 128 then (some (decide ((rd l0 a1) < 192))) else (some false)) else (none)) else (some false)
set_option maxHeartbeats 8000000 in
set_option maxRecDepth 100000 in
theorem decanterref02_more.calls (A0 : Option Addr) (c0 : Nat) (l0 : List Int) (a1 : Int) (r : Bool) (w : World) (hr0 : Kd.C (Kd.int .u8) w A0 l0.length l0) (hc0 : l0.length ≤ c0) (h : decanterref02_more.f l0 a1 = some r) :
    Calls Tryd.prog 60 #[.slice A0 l0.length c0, .int .i64 a1] w fun e w' => e = .returned (.bool r) ∧ Drawn0 w w' := by
  have HR0 := Aside0.mk hr0
  have HC0 := Aside0.mk hc0
  clear hr0 hc0
  have H : (if a1 < (l0.length : Int) then (if 0 ≤ a1 then (if (rd l0 a1) ≥ 128 then (some (decide ((rd l0 a1) < 192))) else (some false)) else (none)) else (some false)) = some r := h
  clear h
  by_cases c3 : a1 < (l0.length : Int)
  · rw [if_pos c3] at H
    have c3b0 : decide (a1 < (l0.length : Int)) = true := decide_eq_true c3
    clear c3
    by_cases c4 : 0 ≤ a1
    · rw [if_pos c4] at H
      have c4b0 : decide (0 ≤ a1) = true := decide_eq_true c4
      clear c4
      by_cases c5 : (rd l0 a1) ≥ 128
      · rw [if_pos c5] at H
        have c5b0 : decide (128 ≤ (rd l0 a1)) = true := decide_eq_true c5
        clear c5
        obtain rfl := Option.some.inj H
        have p212 : 0 ≤ (a1 : Int) := of_decide_eq_true (by first | (with_reducible assumption) | assumption)
        have q212 : a1 < (l0.length : Int) := of_decide_eq_true (by first | (with_reducible assumption) | assumption)
        obtain ⟨ad212, e212, hx212_0⟩ := Kd.at_int HR0.out a1 p212 q212
        cases e212
        replace p212 := eq_true p212
        replace q212 := eq_true q212
        have p213 : 0 ≤ (a1 : Int) := of_decide_eq_true (by first | (with_reducible assumption) | assumption)
        have q213 : a1 < (l0.length : Int) := of_decide_eq_true (by first | (with_reducible assumption) | assumption)
        obtain ⟨ad213, e213, hx213_0⟩ := Kd.at_int HR0.out a1 p213 q213
        obtain rfl : ad212 = ad213 := (by injection e213)
        replace p213 := eq_true p213
        replace q213 := eq_true q213
        go_enter Tryd.func60, Tryd.ntmps60
        go_wp2
        go_ret
        exact ⟨by first | rfl | (simp; done) | (simp [*]; done), by repeat (first | exact Drawn0.refl _ | apply Drawn0.step)⟩
      · rw [if_neg c5] at H
        have c5b0 : decide (128 ≤ (rd l0 a1)) = false := decide_eq_false c5
        clear c5
        obtain rfl := Option.some.inj H
        have p212 : 0 ≤ (a1 : Int) := of_decide_eq_true (by first | (with_reducible assumption) | assumption)
        have q212 : a1 < (l0.length : Int) := of_decide_eq_true (by first | (with_reducible assumption) | assumption)
        obtain ⟨ad212, e212, hx212_0⟩ := Kd.at_int HR0.out a1 p212 q212
        cases e212
        replace p212 := eq_true p212
        replace q212 := eq_true q212
        go_enter Tryd.func60, Tryd.ntmps60
        go_wp2
        go_ret
        exact ⟨by first | rfl | (simp; done) | (simp [*]; done), by repeat (first | exact Drawn0.refl _ | apply Drawn0.step)⟩
    · rw [if_neg c4] at H
      exact absurd H (by simp)
  · rw [if_neg c3] at H
    have c3b0 : decide (a1 < (l0.length : Int)) = false := decide_eq_false c3
    clear c3
    obtain rfl := Option.some.inj H
    go_enter Tryd.func60, Tryd.ntmps60
    go_wp2
    go_ret
    exact ⟨by first | rfl | (simp; done) | (simp [*]; done), by repeat (first | exact Drawn0.refl _ | apply Drawn0.step)⟩

end Go.Proofs.YtnmjocoopbfpnaaDoor.PRefA
