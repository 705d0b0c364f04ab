-- Laid by a program of this session (tools/patch_print.py) out of the translation. Not trusted: Lean checks it.
import Derived.Test.YtdppomkilojmlaaPMarkx0
import Derived.Test.YtdppomkilojmlaaPMarkx1
namespace Go.Proofs.Ytdppomkilojmlaa.PMark
open Go.RowKit Go.Proofs.YtdppomkilojmlaaW.PrintWords Go.Proofs.YtdppomkilojmlaaW.PrintLast Go.Proofs.YtdppomkilojmlaaW.PrintMore
attribute [local go_sem] max2_int min2_int max_two min_two max_three min_three max_four min_four   -- for this text's walks alone
set_option linter.unusedVariables false
set_option linter.unusedSimpArgs false

/-! ### mark_Read: function 15 -/
def mark_Read.j0 : Nat → List Int → Int → Bool → Option (Int × Int × Bool)
  | 0, _, _, _ => none
  | k + 1, x0, x1, x17 => if x17 = true then (some (0, 0, false)) else (if 0 ≤ x1 then (if x1 ≤ (x0.length : Int) then ((strings_HasPrefix.f (strOfNums (x0.drop (x1 : Int).toNat)) (⟨#[60, 33, 45, 45]⟩ : ByteArray)).bind fun t117 => (if t117 = true then ((mark_comment.f k (strOfNums (x0.drop (x1 : Int).toNat))).bind fun t118 => (some (1, wrap64 (x1 + t118), true))) else ((strings_HasPrefix.f (strOfNums (x0.drop (x1 : Int).toNat)) (⟨#[60, 33]⟩ : ByteArray)).bind fun t119 => (if t119 = true then ((mark_behind.f k (strOfNums (x0.drop (x1 : Int).toNat)) 2 (([(⟨#[62]⟩ : ByteArray)] : List ByteArray))).bind fun t123 => ((class_Small.f (strOfNums (x0.drop (x1 : Int).toNat))).bind fun t124 => ((strings_HasPrefix.f t124 (⟨#[60, 33, 100, 111, 99, 116, 121, 112, 101]⟩ : ByteArray)).bind fun t125 => (if t125 = true then (some (2, wrap64 (x1 + t123), true)) else (some (3, wrap64 (x1 + t123), true)))))) else ((strings_HasPrefix.f (strOfNums (x0.drop (x1 : Int).toNat)) (⟨#[60, 63]⟩ : ByteArray)).bind fun t126 => (if t126 = true then ((mark_behind.f k (strOfNums (x0.drop (x1 : Int).toNat)) 2 (([(⟨#[62]⟩ : ByteArray)] : List ByteArray))).bind fun t130 => (some (3, wrap64 (x1 + t130), true))) else ((strings_HasPrefix.f (strOfNums (x0.drop (x1 : Int).toNat)) (⟨#[60, 47, 62]⟩ : ByteArray)).bind fun t131 => (if t131 = true then (some (4, wrap64 (x1 + 3), true)) else ((strings_HasPrefix.f (strOfNums (x0.drop (x1 : Int).toNat)) (⟨#[60, 47]⟩ : ByteArray)).bind fun t132 => (if t132 = true then (if ((strOfNums (x0.drop (x1 : Int).toNat)).size : Int) > 2 then (if 2 < ((strOfNums (x0.drop (x1 : Int).toNat)).size : Int) then ((class_Letter.f (wrap32 (bt (strOfNums (x0.drop (x1 : Int).toNat)) 2))).bind fun t133 => (if t133 = true then (some (0, 0, false)) else ((mark_behind.f k (strOfNums (x0.drop (x1 : Int).toNat)) 2 (([(⟨#[62]⟩ : ByteArray)] : List ByteArray))).bind fun t137 => (some (3, wrap64 (x1 + t137), true))))) else (none)) else (some (0, 0, false))) else (some (0, 0, false)))))))))))) else (none)) else (none))
def mark_Read.f (k : Nat) (l0 : List Int) (a1 : Int) : Option (Int × Int × Bool) := if a1 < 0 then (mark_Read.j0 k l0 a1 true) else (mark_Read.j0 k l0 a1 (decide (a1 ≥ (l0.length : Int))))
theorem mark_Read.mono_l : ∀ k, (∀ y0 y1 y2, LeO (mark_Read.j0 k y0 y1 y2) (mark_Read.j0 (k + 1) y0 y1 y2))
  | 0 => fun _ _ _ r h => by simp [mark_Read.j0] at h
  | k + 1 => by
    have ih0 := mark_Read.mono_l k
    · intro y0 y1 y2
      unfold mark_Read.j0
      repeat' first
      | (with_reducible exact ih0 _ _ _)
      | (with_reducible exact mark_behind.mono _ _ _ _)
      | (with_reducible exact mark_comment.mono _ _)
      | (with_reducible exact LeO.refl _)
      | (with_reducible exact LeO.none _)
      | (with_reducible refine LeO.ite ?_ ?_)
      | (with_reducible refine LeO.bind ?_ (fun _ => ?_))
      | exact ih0 _ _ _
      | exact mark_behind.mono _ _ _ _
      | exact mark_comment.mono _ _
      | exact LeO.none _
      | refine LeO.ite ?_ ?_
      | refine LeO.bind ?_ (fun _ => ?_)
theorem mark_Read.mono : ∀ a0 a1 k, LeO (mark_Read.f k a0 a1) (mark_Read.f (k + 1) a0 a1) := by
  intro a0 a1 k
  have ih0 := mark_Read.mono_l k
  unfold mark_Read.f
  repeat' first
      | (with_reducible exact ih0 _ _ _)
      | (with_reducible exact mark_behind.mono _ _ _ _)
      | (with_reducible exact mark_comment.mono _ _)
      | (with_reducible exact LeO.refl _)
      | (with_reducible exact LeO.none _)
      | (with_reducible refine LeO.ite ?_ ?_)
      | (with_reducible refine LeO.bind ?_ (fun _ => ?_))
      | exact ih0 _ _ _
      | exact mark_behind.mono _ _ _ _
      | exact mark_comment.mono _ _
      | exact LeO.none _
      | refine LeO.ite ?_ ?_
      | refine LeO.bind ?_ (fun _ => ?_)
set_option maxHeartbeats 8000000 in
set_option maxRecDepth 100000 in
theorem mark_Read.calls (k : Nat) (A0 : Option Addr) (c0 : Nat) (l0 : List Int) (a1 : Int) (r1 : Int) (r2 : Int) (r3 : Bool) (w : World) (hW : Wok w) (hr0 : Kd.C (Kd.int .u8) w A0 l0.length l0) (hc0 : l0.length ≤ c0) (h : mark_Read.f k l0 a1 = some (r1, r2, r3)) :
    Calls Try.prog 15 #[.slice A0 l0.length c0, .int .i64 a1] w fun e w' => e = .returned (.tuple #[.int .i64 r1, .int .i64 r2, .bool r3]) ∧ Below w.heap.size w w' := by
  have HR0 := Aside0.mk hr0
  have HC0 := Aside0.mk hc0
  clear hr0 hc0
  have HB := Aside0.mk (Below.refl w.heap.size w)
  have H : (if a1 < 0 then (mark_Read.j0 k l0 a1 true) else (mark_Read.j0 k l0 a1 (decide (a1 ≥ (l0.length : Int))))) = some (r1, r2, r3) := h
  clear h
  have HC3 := Aside0.mk H
  clear H
  go_enter Try.func15, Try.ntmps15
  go_upto_region 1 with (fail)
  go_cut [17] (fun v17 wc => ∃ (kq : Nat) (x17_2 : Bool), v17 = .bool x17_2 ∧ Aside0 (mark_Read.j0 kq l0 a1 x17_2 = some (r1, r2, r3)) ∧ Aside0 (kq ≤ k) ∧ Aside0 (Below w.heap.size w wc))
  case first =>
    have H := HC3.out
    clear HC3
    by_cases c4 : a1 < 0
    · rw [if_pos c4] at H
      have c4b0 : decide (a1 < 0) = true := decide_eq_true c4
      clear c4
      (first | rw [c4b0] | (simp only [i64_w, i32_w]; rw [c4b0]) | skip)
      have H' := Aside0.mk H
      clear H
      go_wp2
      go_meet
      case rel => exact ⟨_, (true), (by first | rfl | (simp; done) | (simp [*]; done)), H', ⟨by first | omega | exact Nat.le_refl _⟩, ⟨by repeat (first | (with_reducible first | exact HB.out | apply below_alloc | apply pw_below_drewN | apply below_drew1) | exact HB.out)⟩⟩
    · rw [if_neg c4] at H
      have c4b0 : decide (a1 < 0) = false := decide_eq_false c4
      clear c4
      (first | rw [c4b0] | (simp only [i64_w, i32_w]; rw [c4b0]) | skip)
      have H' := Aside0.mk H
      clear H
      go_wp2
      go_meet
      case rel => exact ⟨_, (decide (a1 ≥ (l0.length : Int))), (by first | rfl | (simp; done) | (simp [*]; done)), H', ⟨by first | omega | exact Nat.le_refl _⟩, ⟨by repeat (first | (with_reducible first | exact HB.out | apply below_alloc | apply pw_below_drewN | apply below_drew1) | exact HB.out)⟩⟩
  case rest =>
    clear HC3
    try clear c1
    try clear p2
    try clear c4
    try clear c4b0
    obtain ⟨kq, x17_2, rfl, HA, HJ2, HB⟩ := hcut
    cases kq with
    | zero => exact absurd HA.out (by simp [mark_Read.j0])
    | succ kj2 =>
      have H := HA.out
      clear HA
      simp only [mark_Read.j0] at H
      by_cases c5 : x17_2 = true
      · subst c5
        have H1 : (some (0, 0, false)) = some (r1, r2, r3) := by rw [if_pos rfl] at H; exact H
        clear H
        have H := H1
        clear H1
        simp only [Option.some.injEq, Prod.mk.injEq] at H
        obtain ⟨rfl, rfl, rfl⟩ := H
        go_wp2
        go_ret3
        exact ⟨by first | rfl | (simp [errW_none, errW_some] <;> rfl) | (simp [*, errW_none, errW_some] <;> rfl), by repeat (first | (with_reducible first | exact HB.out | apply below_alloc | apply pw_below_drewN | apply below_drew1) | exact HB.out)⟩
      · replace c5 := Bool.eq_false_iff.mpr c5
        subst c5
        have H1 : (if 0 ≤ a1 then (if a1 ≤ (l0.length : Int) then ((strings_HasPrefix.f (strOfNums (l0.drop (a1 : Int).toNat)) (⟨#[60, 33, 45, 45]⟩ : ByteArray)).bind fun t117 => (if t117 = true then ((mark_comment.f kj2 (strOfNums (l0.drop (a1 : Int).toNat))).bind fun t118 => (some (1, wrap64 (a1 + t118), true))) else ((strings_HasPrefix.f (strOfNums (l0.drop (a1 : Int).toNat)) (⟨#[60, 33]⟩ : ByteArray)).bind fun t119 => (if t119 = true then ((mark_behind.f kj2 (strOfNums (l0.drop (a1 : Int).toNat)) 2 (([(⟨#[62]⟩ : ByteArray)] : List ByteArray))).bind fun t123 => ((class_Small.f (strOfNums (l0.drop (a1 : Int).toNat))).bind fun t124 => ((strings_HasPrefix.f t124 (⟨#[60, 33, 100, 111, 99, 116, 121, 112, 101]⟩ : ByteArray)).bind fun t125 => (if t125 = true then (some (2, wrap64 (a1 + t123), true)) else (some (3, wrap64 (a1 + t123), true)))))) else ((strings_HasPrefix.f (strOfNums (l0.drop (a1 : Int).toNat)) (⟨#[60, 63]⟩ : ByteArray)).bind fun t126 => (if t126 = true then ((mark_behind.f kj2 (strOfNums (l0.drop (a1 : Int).toNat)) 2 (([(⟨#[62]⟩ : ByteArray)] : List ByteArray))).bind fun t130 => (some (3, wrap64 (a1 + t130), true))) else ((strings_HasPrefix.f (strOfNums (l0.drop (a1 : Int).toNat)) (⟨#[60, 47, 62]⟩ : ByteArray)).bind fun t131 => (if t131 = true then (some (4, wrap64 (a1 + 3), true)) else ((strings_HasPrefix.f (strOfNums (l0.drop (a1 : Int).toNat)) (⟨#[60, 47]⟩ : ByteArray)).bind fun t132 => (if t132 = true then (if ((strOfNums (l0.drop (a1 : Int).toNat)).size : Int) > 2 then (if 2 < ((strOfNums (l0.drop (a1 : Int).toNat)).size : Int) then ((class_Letter.f (wrap32 (bt (strOfNums (l0.drop (a1 : Int).toNat)) 2))).bind fun t133 => (if t133 = true then (some (0, 0, false)) else ((mark_behind.f kj2 (strOfNums (l0.drop (a1 : Int).toNat)) 2 (([(⟨#[62]⟩ : ByteArray)] : List ByteArray))).bind fun t137 => (some (3, wrap64 (a1 + t137), true))))) else (none)) else (some (0, 0, false))) else (some (0, 0, false)))))))))))) else (none)) else (none)) = some (r1, r2, r3) := by rw [if_neg (show ¬ (false = true) by decide)] at H; exact H
        clear H
        have H := H1
        clear H1
        by_cases c6 : 0 ≤ a1
        · rw [if_pos c6] at H
          have c6b0 := eq_true c6
          have c6b1 : decide (0 ≤ a1) = true := decide_eq_true c6
          clear c6
          by_cases c7 : a1 ≤ (l0.length : Int)
          · rw [if_pos c7] at H
            have c7b0 := eq_true c7
            have c7b1 : decide (a1 ≤ (l0.length : Int)) = true := decide_eq_true c7
            clear c7
            replace H := Option.bind_eq_some_iff.mp H
            obtain ⟨t117, A80, H⟩ := H
            replace H : (if t117 = true then ((mark_comment.f kj2 (strOfNums (l0.drop (a1 : Int).toNat))).bind fun t118 => (some (1, wrap64 (a1 + t118), true))) else ((strings_HasPrefix.f (strOfNums (l0.drop (a1 : Int).toNat)) (⟨#[60, 33]⟩ : ByteArray)).bind fun t119 => (if t119 = true then ((mark_behind.f kj2 (strOfNums (l0.drop (a1 : Int).toNat)) 2 (([(⟨#[62]⟩ : ByteArray)] : List ByteArray))).bind fun t123 => ((class_Small.f (strOfNums (l0.drop (a1 : Int).toNat))).bind fun t124 => ((strings_HasPrefix.f t124 (⟨#[60, 33, 100, 111, 99, 116, 121, 112, 101]⟩ : ByteArray)).bind fun t125 => (if t125 = true then (some (2, wrap64 (a1 + t123), true)) else (some (3, wrap64 (a1 + t123), true)))))) else ((strings_HasPrefix.f (strOfNums (l0.drop (a1 : Int).toNat)) (⟨#[60, 63]⟩ : ByteArray)).bind fun t126 => (if t126 = true then ((mark_behind.f kj2 (strOfNums (l0.drop (a1 : Int).toNat)) 2 (([(⟨#[62]⟩ : ByteArray)] : List ByteArray))).bind fun t130 => (some (3, wrap64 (a1 + t130), true))) else ((strings_HasPrefix.f (strOfNums (l0.drop (a1 : Int).toNat)) (⟨#[60, 47, 62]⟩ : ByteArray)).bind fun t131 => (if t131 = true then (some (4, wrap64 (a1 + 3), true)) else ((strings_HasPrefix.f (strOfNums (l0.drop (a1 : Int).toNat)) (⟨#[60, 47]⟩ : ByteArray)).bind fun t132 => (if t132 = true then (if ((strOfNums (l0.drop (a1 : Int).toNat)).size : Int) > 2 then (if 2 < ((strOfNums (l0.drop (a1 : Int).toNat)).size : Int) then ((class_Letter.f (wrap32 (bt (strOfNums (l0.drop (a1 : Int).toNat)) 2))).bind fun t133 => (if t133 = true then (some (0, 0, false)) else ((mark_behind.f kj2 (strOfNums (l0.drop (a1 : Int).toNat)) 2 (([(⟨#[62]⟩ : ByteArray)] : List ByteArray))).bind fun t137 => (some (3, wrap64 (a1 + t137), true))))) else (none)) else (some (0, 0, false))) else (some (0, 0, false))))))))))) = some (r1, r2, r3) := H
            have A8 := Aside0.mk A80
            clear A80
            by_cases c9 : t117 = true
            · subst c9
              have H1 : ((mark_comment.f kj2 (strOfNums (l0.drop (a1 : Int).toNat))).bind fun t118 => (some (1, wrap64 (a1 + t118), true))) = some (r1, r2, r3) := by rw [if_pos rfl] at H; exact H
              clear H
              have H := H1
              clear H1
              replace H := Option.bind_eq_some_iff.mp H
              obtain ⟨t118, A100, H⟩ := H
              replace H : (some (1, wrap64 (a1 + t118), true)) = some (r1, r2, r3) := H
              have A10 := Aside0.mk A100
              clear A100
              simp only [Option.some.injEq, Prod.mk.injEq] at H
              obtain ⟨rfl, rfl, rfl⟩ := H
              obtain ⟨i011, hi011, _, hsz11, _⟩ := info_parts info5
              obtain ⟨A11, hcut11, hA11, hC11⟩ := print_drop_of (P := Try.prog) (Value.int .u8) 0 22 5 .i64 Try.underlying22 hi011 hsz11 A0 c0 l0 a1 (of_decide_eq_true (by first | (with_reducible assumption) | assumption)) (of_decide_eq_true (by first | (with_reducible assumption) | assumption)) HC0.out
              have HR116 := Aside0.mk (Kd.C_of_reads (h1 := fun _ => rfl) (hA11 _ (Kd.reads_of_C HR0.out)))
              have HC116 := Aside0.mk hC11
              clear hA11 hC11 hi011 hsz11
              have hcv12 := Kd.C_string (P := Try.prog) (A := A11) (c := (c0 - a1.toNat)) Try.underlying22 Try.underlying5 Try.underlying9 (Kd.C_below HR116.out HB.out)
              have hcw12 := hcv12
              (try simp only [Int.reduceToNat] at hcw12)
              (try rw [show (l0.drop (a1 : Int).toNat).length = (l0.length - a1.toNat) from List.length_drop] at hcw12)
              go_wp2_with (first | ((with_reducible refine gate_callee (f := 20) rfl ?_); refine goesL_ (some 24) rfl rfl Try.func20 (by kernel_rfl) rfl #[.string (strOfNums (l0.drop (a1 : Int).toNat)), .string (⟨#[60, 33, 45, 45]⟩ : ByteArray)] rfl (by (try simp only [List.map_toArray, List.map_cons, List.map_nil]); first | done | rfl | (simp only [List.length_drop, List.length_take]; rfl)) ?_; (with_reducible refine (strings_HasPrefix.calls (strOfNums (l0.drop (a1 : Int).toNat)) (⟨#[60, 33, 45, 45]⟩ : ByteArray) true _ A8.out).mono ?_); rintro e w' ⟨rfl, ⟨nd, rfl⟩⟩; refine ⟨_, rfl, ?_⟩) | ((with_reducible refine gate_callee (f := 21) rfl ?_); refine goesL_ (some 26) rfl rfl Try.func21 (by kernel_rfl) rfl #[.string (strOfNums (l0.drop (a1 : Int).toNat))] rfl (by (try simp only [List.map_toArray, List.map_cons, List.map_nil]); first | done | rfl | (simp only [List.length_drop, List.length_take]; rfl)) ?_; (with_reducible refine (mark_comment.calls kj2 (strOfNums (l0.drop (a1 : Int).toNat)) t118 _ (Wok_below hW (by repeat (first | (with_reducible first | exact HB.out | apply below_alloc | apply pw_below_drewN | apply below_drew1) | exact HB.out))) A10.out).mono ?_); rintro e w13 ⟨rfl, hb⟩; refine ⟨_, rfl, ?_⟩; have n0_ := Aside0.mk (below_step (by repeat (first | (with_reducible first | exact HB.out | apply below_alloc | apply pw_below_drewN | apply below_drew1) | exact HB.out)) hb); clear HB; have HB := n0_; clear n0_; (try clear hb); (try clear hb2); (try clear hk); (try clear hi)))
              go_ret3
              exact ⟨by first | rfl | (simp [errW_none, errW_some] <;> rfl) | (simp [*, errW_none, errW_some] <;> rfl), by repeat (first | (with_reducible first | exact HB.out | apply below_alloc | apply pw_below_drewN | apply below_drew1) | exact HB.out)⟩
            · replace c9 := Bool.eq_false_iff.mpr c9
              subst c9
              have H1 : ((strings_HasPrefix.f (strOfNums (l0.drop (a1 : Int).toNat)) (⟨#[60, 33]⟩ : ByteArray)).bind fun t119 => (if t119 = true then ((mark_behind.f kj2 (strOfNums (l0.drop (a1 : Int).toNat)) 2 (([(⟨#[62]⟩ : ByteArray)] : List ByteArray))).bind fun t123 => ((class_Small.f (strOfNums (l0.drop (a1 : Int).toNat))).bind fun t124 => ((strings_HasPrefix.f t124 (⟨#[60, 33, 100, 111, 99, 116, 121, 112, 101]⟩ : ByteArray)).bind fun t125 => (if t125 = true then (some (2, wrap64 (a1 + t123), true)) else (some (3, wrap64 (a1 + t123), true)))))) else ((strings_HasPrefix.f (strOfNums (l0.drop (a1 : Int).toNat)) (⟨#[60, 63]⟩ : ByteArray)).bind fun t126 => (if t126 = true then ((mark_behind.f kj2 (strOfNums (l0.drop (a1 : Int).toNat)) 2 (([(⟨#[62]⟩ : ByteArray)] : List ByteArray))).bind fun t130 => (some (3, wrap64 (a1 + t130), true))) else ((strings_HasPrefix.f (strOfNums (l0.drop (a1 : Int).toNat)) (⟨#[60, 47, 62]⟩ : ByteArray)).bind fun t131 => (if t131 = true then (some (4, wrap64 (a1 + 3), true)) else ((strings_HasPrefix.f (strOfNums (l0.drop (a1 : Int).toNat)) (⟨#[60, 47]⟩ : ByteArray)).bind fun t132 => (if t132 = true then (if ((strOfNums (l0.drop (a1 : Int).toNat)).size : Int) > 2 then (if 2 < ((strOfNums (l0.drop (a1 : Int).toNat)).size : Int) then ((class_Letter.f (wrap32 (bt (strOfNums (l0.drop (a1 : Int).toNat)) 2))).bind fun t133 => (if t133 = true then (some (0, 0, false)) else ((mark_behind.f kj2 (strOfNums (l0.drop (a1 : Int).toNat)) 2 (([(⟨#[62]⟩ : ByteArray)] : List ByteArray))).bind fun t137 => (some (3, wrap64 (a1 + t137), true))))) else (none)) else (some (0, 0, false))) else (some (0, 0, false)))))))))) = some (r1, r2, r3) := by rw [if_neg (show ¬ (false = true) by decide)] at H; exact H
              clear H
              have H := H1
              clear H1
              replace H := Option.bind_eq_some_iff.mp H
              obtain ⟨t119, A140, H⟩ := H
              replace H : (if t119 = true then ((mark_behind.f kj2 (strOfNums (l0.drop (a1 : Int).toNat)) 2 (([(⟨#[62]⟩ : ByteArray)] : List ByteArray))).bind fun t123 => ((class_Small.f (strOfNums (l0.drop (a1 : Int).toNat))).bind fun t124 => ((strings_HasPrefix.f t124 (⟨#[60, 33, 100, 111, 99, 116, 121, 112, 101]⟩ : ByteArray)).bind fun t125 => (if t125 = true then (some (2, wrap64 (a1 + t123), true)) else (some (3, wrap64 (a1 + t123), true)))))) else ((strings_HasPrefix.f (strOfNums (l0.drop (a1 : Int).toNat)) (⟨#[60, 63]⟩ : ByteArray)).bind fun t126 => (if t126 = true then ((mark_behind.f kj2 (strOfNums (l0.drop (a1 : Int).toNat)) 2 (([(⟨#[62]⟩ : ByteArray)] : List ByteArray))).bind fun t130 => (some (3, wrap64 (a1 + t130), true))) else ((strings_HasPrefix.f (strOfNums (l0.drop (a1 : Int).toNat)) (⟨#[60, 47, 62]⟩ : ByteArray)).bind fun t131 => (if t131 = true then (some (4, wrap64 (a1 + 3), true)) else ((strings_HasPrefix.f (strOfNums (l0.drop (a1 : Int).toNat)) (⟨#[60, 47]⟩ : ByteArray)).bind fun t132 => (if t132 = true then (if ((strOfNums (l0.drop (a1 : Int).toNat)).size : Int) > 2 then (if 2 < ((strOfNums (l0.drop (a1 : Int).toNat)).size : Int) then ((class_Letter.f (wrap32 (bt (strOfNums (l0.drop (a1 : Int).toNat)) 2))).bind fun t133 => (if t133 = true then (some (0, 0, false)) else ((mark_behind.f kj2 (strOfNums (l0.drop (a1 : Int).toNat)) 2 (([(⟨#[62]⟩ : ByteArray)] : List ByteArray))).bind fun t137 => (some (3, wrap64 (a1 + t137), true))))) else (none)) else (some (0, 0, false))) else (some (0, 0, false))))))))) = some (r1, r2, r3) := H
              have A14 := Aside0.mk A140
              clear A140
              by_cases c15 : t119 = true
              · subst c15
                have H1 : ((mark_behind.f kj2 (strOfNums (l0.drop (a1 : Int).toNat)) 2 (([(⟨#[62]⟩ : ByteArray)] : List ByteArray))).bind fun t123 => ((class_Small.f (strOfNums (l0.drop (a1 : Int).toNat))).bind fun t124 => ((strings_HasPrefix.f t124 (⟨#[60, 33, 100, 111, 99, 116, 121, 112, 101]⟩ : ByteArray)).bind fun t125 => (if t125 = true then (some (2, wrap64 (a1 + t123), true)) else (some (3, wrap64 (a1 + t123), true)))))) = some (r1, r2, r3) := by rw [if_pos rfl] at H; exact H
                clear H
                have H := H1
                clear H1
                obtain ⟨y120, hy120⟩ : ∃ y_ : List ByteArray, y_ = (([(⟨#[62]⟩ : ByteArray)] : List ByteArray)) := ⟨_, rfl⟩
                replace H : ((mark_behind.f kj2 (strOfNums (l0.drop (a1 : Int).toNat)) 2 y120).bind fun t123 => ((class_Small.f (strOfNums (l0.drop (a1 : Int).toNat))).bind fun t124 => ((strings_HasPrefix.f t124 (⟨#[60, 33, 100, 111, 99, 116, 121, 112, 101]⟩ : ByteArray)).bind fun t125 => (if t125 = true then (some (2, wrap64 (a1 + t123), true)) else (some (3, wrap64 (a1 + t123), true)))))) = some (r1, r2, r3) := by first | (rw [hy120]; with_reducible exact H) | (have H2_ := (Option.bind_some _ _).symm.trans H; rw [hy120]; with_reducible exact H2_) | (have H2_ := (Option.bind_some _ _).symm.trans H; with_reducible exact H2_) | with_reducible exact H | (rw [hy120]; exact H) | exact H
                have Ny120 := Aside0.mk hy120
                clear hy120
                replace H := Option.bind_eq_some_iff.mp H
                obtain ⟨t123, A160, H⟩ := H
                replace H : ((class_Small.f (strOfNums (l0.drop (a1 : Int).toNat))).bind fun t124 => ((strings_HasPrefix.f t124 (⟨#[60, 33, 100, 111, 99, 116, 121, 112, 101]⟩ : ByteArray)).bind fun t125 => (if t125 = true then (some (2, wrap64 (a1 + t123), true)) else (some (3, wrap64 (a1 + t123), true))))) = some (r1, r2, r3) := H
                have A16 := Aside0.mk A160
                clear A160
                replace H := Option.bind_eq_some_iff.mp H
                obtain ⟨t124, A170, H⟩ := H
                replace H : ((strings_HasPrefix.f t124 (⟨#[60, 33, 100, 111, 99, 116, 121, 112, 101]⟩ : ByteArray)).bind fun t125 => (if t125 = true then (some (2, wrap64 (a1 + t123), true)) else (some (3, wrap64 (a1 + t123), true)))) = some (r1, r2, r3) := H
                have A17 := Aside0.mk A170
                clear A170
                replace H := Option.bind_eq_some_iff.mp H
                obtain ⟨t125, A180, H⟩ := H
                replace H : (if t125 = true then (some (2, wrap64 (a1 + t123), true)) else (some (3, wrap64 (a1 + t123), true))) = some (r1, r2, r3) := H
                have A18 := Aside0.mk A180
                clear A180
                by_cases c19 : t125 = true
                · subst c19
                  have H1 : (some (2, wrap64 (a1 + t123), true)) = some (r1, r2, r3) := by rw [if_pos rfl] at H; exact H
                  clear H
                  have H := H1
                  clear H1
                  simp only [Option.some.injEq, Prod.mk.injEq] at H
                  obtain ⟨rfl, rfl, rfl⟩ := H
                  obtain ⟨i020, hi020, _, hsz20, _⟩ := info_parts info5
                  obtain ⟨A20, hcut20, hA20, hC20⟩ := print_drop_of (P := Try.prog) (Value.int .u8) 0 22 5 .i64 Try.underlying22 hi020 hsz20 A0 c0 l0 a1 (of_decide_eq_true (by first | (with_reducible assumption) | assumption)) (of_decide_eq_true (by first | (with_reducible assumption) | assumption)) HC0.out
                  have HR116 := Aside0.mk (Kd.C_of_reads (h1 := fun _ => rfl) (hA20 _ (Kd.reads_of_C HR0.out)))
                  have HC116 := Aside0.mk hC20
                  clear hA20 hC20 hi020 hsz20
                  have hcv21 := Kd.C_string (P := Try.prog) (A := A20) (c := (c0 - a1.toNat)) Try.underlying22 Try.underlying5 Try.underlying9 (Kd.C_below HR116.out HB.out)
                  have hcw21 := hcv21
                  (try simp only [Int.reduceToNat] at hcw21)
                  (try rw [show (l0.drop (a1 : Int).toNat).length = (l0.length - a1.toNat) from List.length_drop] at hcw21)
                  go_wp2_with (first | ((with_reducible refine gate_callee (f := 20) rfl ?_); refine goesL_ (some 24) rfl rfl Try.func20 (by kernel_rfl) rfl #[.string (strOfNums (l0.drop (a1 : Int).toNat)), .string (⟨#[60, 33, 45, 45]⟩ : ByteArray)] rfl (by (try simp only [List.map_toArray, List.map_cons, List.map_nil]); first | done | rfl | (simp only [List.length_drop, List.length_take]; rfl)) ?_; (with_reducible refine (strings_HasPrefix.calls (strOfNums (l0.drop (a1 : Int).toNat)) (⟨#[60, 33, 45, 45]⟩ : ByteArray) false _ A8.out).mono ?_); rintro e w' ⟨rfl, ⟨nd, rfl⟩⟩; refine ⟨_, rfl, ?_⟩) | ((with_reducible refine gate_callee (f := 20) rfl ?_); refine goesL_ (some 29) rfl rfl Try.func20 (by kernel_rfl) rfl #[.string (strOfNums (l0.drop (a1 : Int).toNat)), .string (⟨#[60, 33]⟩ : ByteArray)] rfl (by (try simp only [List.map_toArray, List.map_cons, List.map_nil]); first | done | rfl | (simp only [List.length_drop, List.length_take]; rfl)) ?_; (with_reducible refine (strings_HasPrefix.calls (strOfNums (l0.drop (a1 : Int).toNat)) (⟨#[60, 33]⟩ : ByteArray) true _ A14.out).mono ?_); rintro e w' ⟨rfl, ⟨nd, rfl⟩⟩; refine ⟨_, rfl, ?_⟩) | ((with_reducible refine gate_dst (N := 31) rfl ?_); (try (refine gate_guard (by rfl) ?_; dsimp only)); refine Kd.R_lit Kd.string _ 9 ?hg (N := 31) ?hd (xs := ([(⟨#[62]⟩ : ByteArray)] : List ByteArray)) (inner := [.string (⟨#[62]⟩ : ByteArray)]) (ok := fun _ => True) (okp := fun _ => True) ?hr ?hp (fun _ hk => hk) trivial (Below.refl _ _) (Nat.le_refl _) (by simp) ?_; (case hd => rfl); (case hg => rfl); (case hr => first | (go_simp; done) | (go_simp; rfl)); (case hp => exact (Reps.one (show Kd.M Kd.string _ _ _ (⟨#[62]⟩ : ByteArray) [.string (⟨#[62]⟩ : ByteArray)] from rfl) (Reps.none _ _))); intro v121 w22 ho23 hb hg_ hnew_; clear hg_ hnew_; (first | rw [← Ny120.out] at ho23 | (simp only [Int.reduceToNat] at ho23; rw [← Ny120.out] at ho23)); have n0_ := Aside0.mk (Kd.R_lower ho23 (below_size (by repeat (first | (with_reducible first | exact HB.out | apply below_alloc | apply pw_below_drewN | apply below_drew1) | exact HB.out)))); have n1_ := Aside0.mk (below_step (by repeat (first | (with_reducible first | exact HB.out | apply below_alloc | apply pw_below_drewN | apply below_drew1) | exact HB.out)) hb); clear HB; have HO122 := n0_; have HB := n1_; clear n0_ n1_; clear hb ho23; obtain ⟨Ao24, co24, eo24⟩ := Kd.R_slice HO122.out; subst eo24) | ((with_reducible refine gate_callee (f := 22) rfl ?_); refine goesL_ (some 32) rfl rfl Try.func22 (by kernel_rfl) rfl #[.string (strOfNums (l0.drop (a1 : Int).toNat)), .int .i64 2, .slice Ao24 y120.length co24] rfl (by (try simp only [List.map_toArray, List.map_cons, List.map_nil]); first | done | rfl | (simp only [List.length_drop, List.length_take]; rfl)) ?_; (with_reducible refine (mark_behind.calls kj2 (strOfNums (l0.drop (a1 : Int).toNat)) 2 _ _ y120 t123 _ (Wok_below hW (by repeat (first | (with_reducible first | exact HB.out | apply below_alloc | apply pw_below_drewN | apply below_drew1) | exact HB.out))) ?side1 ?side2 A16.out).mono ?_); (case side1 => repeat (first | exact (Kd.R_reads' HO122.out).2.2 | (with_reducible refine Kd.C_alloc ?_ _) | (with_reducible refine Kd.C_drewN ?_ _) | (with_reducible refine Kd.C_drew ?_))); (case side2 => exact (Kd.R_reads' HO122.out).2.1); rintro e w25 ⟨rfl, hb⟩; refine ⟨_, rfl, ?_⟩; have n0_ := Aside0.mk (Kd.R_below (by (with_reducible repeat (first | apply Kd.R_alloc | apply Kd.R_drewN | apply Kd.R_drew)); exact HO122.out) hb); have n1_ := Aside0.mk (below_step (by repeat (first | (with_reducible first | exact HB.out | apply below_alloc | apply pw_below_drewN | apply below_drew1) | exact HB.out)) hb); clear HO122; clear HB; have HO122 := n0_; have HB := n1_; clear n0_ n1_; (try clear hb); (try clear hb2); (try clear hk); (try clear hi)) | ((with_reducible refine gate_callee (f := 23) rfl ?_); refine goesL_ (some 34) rfl rfl Try.func23 (by kernel_rfl) rfl #[.string (strOfNums (l0.drop (a1 : Int).toNat))] rfl (by (try simp only [List.map_toArray, List.map_cons, List.map_nil]); first | done | rfl | (simp only [List.length_drop, List.length_take]; rfl)) ?_; (with_reducible refine (class_Small.calls (strOfNums (l0.drop (a1 : Int).toNat)) t124 _ A17.out).mono ?_); rintro e w26 ⟨rfl, hb⟩; refine ⟨_, rfl, ?_⟩; have n0_ := Aside0.mk (Kd.R_below (by (with_reducible repeat (first | apply Kd.R_alloc | apply Kd.R_drewN | apply Kd.R_drew)); exact HO122.out) hb); have n1_ := Aside0.mk (below_step (by repeat (first | (with_reducible first | exact HB.out | apply below_alloc | apply pw_below_drewN | apply below_drew1) | exact HB.out)) hb); clear HO122; clear HB; have HO122 := n0_; have HB := n1_; clear n0_ n1_; (try clear hb); (try clear hb2); (try clear hk); (try clear hi)) | ((with_reducible refine gate_callee (f := 20) rfl ?_); refine goesL_ (some 35) rfl rfl Try.func20 (by kernel_rfl) rfl #[.string t124, .string (⟨#[60, 33, 100, 111, 99, 116, 121, 112, 101]⟩ : ByteArray)] rfl (by (try simp only [List.map_toArray, List.map_cons, List.map_nil]); first | done | rfl | (simp only [List.length_drop, List.length_take]; rfl)) ?_; (with_reducible refine (strings_HasPrefix.calls t124 (⟨#[60, 33, 100, 111, 99, 116, 121, 112, 101]⟩ : ByteArray) true _ A18.out).mono ?_); rintro e w' ⟨rfl, ⟨nd, rfl⟩⟩; refine ⟨_, rfl, ?_⟩))
                  go_ret3
                  exact ⟨by first | rfl | (simp [errW_none, errW_some] <;> rfl) | (simp [*, errW_none, errW_some] <;> rfl), by repeat (first | (with_reducible first | exact HB.out | apply below_alloc | apply pw_below_drewN | apply below_drew1) | exact HB.out)⟩
                · replace c19 := Bool.eq_false_iff.mpr c19
                  subst c19
                  have H1 : (some (3, wrap64 (a1 + t123), true)) = some (r1, r2, r3) := by rw [if_neg (show ¬ (false = true) by decide)] at H; exact H
                  clear H
                  have H := H1
                  clear H1
                  simp only [Option.some.injEq, Prod.mk.injEq] at H
                  obtain ⟨rfl, rfl, rfl⟩ := H
                  obtain ⟨i027, hi027, _, hsz27, _⟩ := info_parts info5
                  obtain ⟨A27, hcut27, hA27, hC27⟩ := print_drop_of (P := Try.prog) (Value.int .u8) 0 22 5 .i64 Try.underlying22 hi027 hsz27 A0 c0 l0 a1 (of_decide_eq_true (by first | (with_reducible assumption) | assumption)) (of_decide_eq_true (by first | (with_reducible assumption) | assumption)) HC0.out
                  have HR116 := Aside0.mk (Kd.C_of_reads (h1 := fun _ => rfl) (hA27 _ (Kd.reads_of_C HR0.out)))
                  have HC116 := Aside0.mk hC27
                  clear hA27 hC27 hi027 hsz27
                  have hcv28 := Kd.C_string (P := Try.prog) (A := A27) (c := (c0 - a1.toNat)) Try.underlying22 Try.underlying5 Try.underlying9 (Kd.C_below HR116.out HB.out)
                  have hcw28 := hcv28
                  (try simp only [Int.reduceToNat] at hcw28)
                  (try rw [show (l0.drop (a1 : Int).toNat).length = (l0.length - a1.toNat) from List.length_drop] at hcw28)
                  go_wp2_with (first | ((with_reducible refine gate_callee (f := 20) rfl ?_); refine goesL_ (some 24) rfl rfl Try.func20 (by kernel_rfl) rfl #[.string (strOfNums (l0.drop (a1 : Int).toNat)), .string (⟨#[60, 33, 45, 45]⟩ : ByteArray)] rfl (by (try simp only [List.map_toArray, List.map_cons, List.map_nil]); first | done | rfl | (simp only [List.length_drop, List.length_take]; rfl)) ?_; (with_reducible refine (strings_HasPrefix.calls (strOfNums (l0.drop (a1 : Int).toNat)) (⟨#[60, 33, 45, 45]⟩ : ByteArray) false _ A8.out).mono ?_); rintro e w' ⟨rfl, ⟨nd, rfl⟩⟩; refine ⟨_, rfl, ?_⟩) | ((with_reducible refine gate_callee (f := 20) rfl ?_); refine goesL_ (some 29) rfl rfl Try.func20 (by kernel_rfl) rfl #[.string (strOfNums (l0.drop (a1 : Int).toNat)), .string (⟨#[60, 33]⟩ : ByteArray)] rfl (by (try simp only [List.map_toArray, List.map_cons, List.map_nil]); first | done | rfl | (simp only [List.length_drop, List.length_take]; rfl)) ?_; (with_reducible refine (strings_HasPrefix.calls (strOfNums (l0.drop (a1 : Int).toNat)) (⟨#[60, 33]⟩ : ByteArray) true _ A14.out).mono ?_); rintro e w' ⟨rfl, ⟨nd, rfl⟩⟩; refine ⟨_, rfl, ?_⟩) | ((with_reducible refine gate_dst (N := 31) rfl ?_); (try (refine gate_guard (by rfl) ?_; dsimp only)); refine Kd.R_lit Kd.string _ 9 ?hg (N := 31) ?hd (xs := ([(⟨#[62]⟩ : ByteArray)] : List ByteArray)) (inner := [.string (⟨#[62]⟩ : ByteArray)]) (ok := fun _ => True) (okp := fun _ => True) ?hr ?hp (fun _ hk => hk) trivial (Below.refl _ _) (Nat.le_refl _) (by simp) ?_; (case hd => rfl); (case hg => rfl); (case hr => first | (go_simp; done) | (go_simp; rfl)); (case hp => exact (Reps.one (show Kd.M Kd.string _ _ _ (⟨#[62]⟩ : ByteArray) [.string (⟨#[62]⟩ : ByteArray)] from rfl) (Reps.none _ _))); intro v121 w29 ho30 hb hg_ hnew_; clear hg_ hnew_; (first | rw [← Ny120.out] at ho30 | (simp only [Int.reduceToNat] at ho30; rw [← Ny120.out] at ho30)); have n0_ := Aside0.mk (Kd.R_lower ho30 (below_size (by repeat (first | (with_reducible first | exact HB.out | apply below_alloc | apply pw_below_drewN | apply below_drew1) | exact HB.out)))); have n1_ := Aside0.mk (below_step (by repeat (first | (with_reducible first | exact HB.out | apply below_alloc | apply pw_below_drewN | apply below_drew1) | exact HB.out)) hb); clear HB; have HO122 := n0_; have HB := n1_; clear n0_ n1_; clear hb ho30; obtain ⟨Ao31, co31, eo31⟩ := Kd.R_slice HO122.out; subst eo31) | ((with_reducible refine gate_callee (f := 22) rfl ?_); refine goesL_ (some 32) rfl rfl Try.func22 (by kernel_rfl) rfl #[.string (strOfNums (l0.drop (a1 : Int).toNat)), .int .i64 2, .slice Ao31 y120.length co31] rfl (by (try simp only [List.map_toArray, List.map_cons, List.map_nil]); first | done | rfl | (simp only [List.length_drop, List.length_take]; rfl)) ?_; (with_reducible refine (mark_behind.calls kj2 (strOfNums (l0.drop (a1 : Int).toNat)) 2 _ _ y120 t123 _ (Wok_below hW (by repeat (first | (with_reducible first | exact HB.out | apply below_alloc | apply pw_below_drewN | apply below_drew1) | exact HB.out))) ?side1 ?side2 A16.out).mono ?_); (case side1 => repeat (first | exact (Kd.R_reads' HO122.out).2.2 | (with_reducible refine Kd.C_alloc ?_ _) | (with_reducible refine Kd.C_drewN ?_ _) | (with_reducible refine Kd.C_drew ?_))); (case side2 => exact (Kd.R_reads' HO122.out).2.1); rintro e w32 ⟨rfl, hb⟩; refine ⟨_, rfl, ?_⟩; have n0_ := Aside0.mk (Kd.R_below (by (with_reducible repeat (first | apply Kd.R_alloc | apply Kd.R_drewN | apply Kd.R_drew)); exact HO122.out) hb); have n1_ := Aside0.mk (below_step (by repeat (first | (with_reducible first | exact HB.out | apply below_alloc | apply pw_below_drewN | apply below_drew1) | exact HB.out)) hb); clear HO122; clear HB; have HO122 := n0_; have HB := n1_; clear n0_ n1_; (try clear hb); (try clear hb2); (try clear hk); (try clear hi)) | ((with_reducible refine gate_callee (f := 23) rfl ?_); refine goesL_ (some 34) rfl rfl Try.func23 (by kernel_rfl) rfl #[.string (strOfNums (l0.drop (a1 : Int).toNat))] rfl (by (try simp only [List.map_toArray, List.map_cons, List.map_nil]); first | done | rfl | (simp only [List.length_drop, List.length_take]; rfl)) ?_; (with_reducible refine (class_Small.calls (strOfNums (l0.drop (a1 : Int).toNat)) t124 _ A17.out).mono ?_); rintro e w33 ⟨rfl, hb⟩; refine ⟨_, rfl, ?_⟩; have n0_ := Aside0.mk (Kd.R_below (by (with_reducible repeat (first | apply Kd.R_alloc | apply Kd.R_drewN | apply Kd.R_drew)); exact HO122.out) hb); have n1_ := Aside0.mk (below_step (by repeat (first | (with_reducible first | exact HB.out | apply below_alloc | apply pw_below_drewN | apply below_drew1) | exact HB.out)) hb); clear HO122; clear HB; have HO122 := n0_; have HB := n1_; clear n0_ n1_; (try clear hb); (try clear hb2); (try clear hk); (try clear hi)) | ((with_reducible refine gate_callee (f := 20) rfl ?_); refine goesL_ (some 35) rfl rfl Try.func20 (by kernel_rfl) rfl #[.string t124, .string (⟨#[60, 33, 100, 111, 99, 116, 121, 112, 101]⟩ : ByteArray)] rfl (by (try simp only [List.map_toArray, List.map_cons, List.map_nil]); first | done | rfl | (simp only [List.length_drop, List.length_take]; rfl)) ?_; (with_reducible refine (strings_HasPrefix.calls t124 (⟨#[60, 33, 100, 111, 99, 116, 121, 112, 101]⟩ : ByteArray) false _ A18.out).mono ?_); rintro e w' ⟨rfl, ⟨nd, rfl⟩⟩; refine ⟨_, rfl, ?_⟩))
                  go_ret3
                  exact ⟨by first | rfl | (simp [errW_none, errW_some] <;> rfl) | (simp [*, errW_none, errW_some] <;> rfl), by repeat (first | (with_reducible first | exact HB.out | apply below_alloc | apply pw_below_drewN | apply below_drew1) | exact HB.out)⟩
              · replace c15 := Bool.eq_false_iff.mpr c15
                subst c15
                have H1 : ((strings_HasPrefix.f (strOfNums (l0.drop (a1 : Int).toNat)) (⟨#[60, 63]⟩ : ByteArray)).bind fun t126 => (if t126 = true then ((mark_behind.f kj2 (strOfNums (l0.drop (a1 : Int).toNat)) 2 (([(⟨#[62]⟩ : ByteArray)] : List ByteArray))).bind fun t130 => (some (3, wrap64 (a1 + t130), true))) else ((strings_HasPrefix.f (strOfNums (l0.drop (a1 : Int).toNat)) (⟨#[60, 47, 62]⟩ : ByteArray)).bind fun t131 => (if t131 = true then (some (4, wrap64 (a1 + 3), true)) else ((strings_HasPrefix.f (strOfNums (l0.drop (a1 : Int).toNat)) (⟨#[60, 47]⟩ : ByteArray)).bind fun t132 => (if t132 = true then (if ((strOfNums (l0.drop (a1 : Int).toNat)).size : Int) > 2 then (if 2 < ((strOfNums (l0.drop (a1 : Int).toNat)).size : Int) then ((class_Letter.f (wrap32 (bt (strOfNums (l0.drop (a1 : Int).toNat)) 2))).bind fun t133 => (if t133 = true then (some (0, 0, false)) else ((mark_behind.f kj2 (strOfNums (l0.drop (a1 : Int).toNat)) 2 (([(⟨#[62]⟩ : ByteArray)] : List ByteArray))).bind fun t137 => (some (3, wrap64 (a1 + t137), true))))) else (none)) else (some (0, 0, false))) else (some (0, 0, false)))))))) = some (r1, r2, r3) := by rw [if_neg (show ¬ (false = true) by decide)] at H; exact H
                clear H
                have H := H1
                clear H1
                replace H := Option.bind_eq_some_iff.mp H
                obtain ⟨t126, A340, H⟩ := H
                replace H : (if t126 = true then ((mark_behind.f kj2 (strOfNums (l0.drop (a1 : Int).toNat)) 2 (([(⟨#[62]⟩ : ByteArray)] : List ByteArray))).bind fun t130 => (some (3, wrap64 (a1 + t130), true))) else ((strings_HasPrefix.f (strOfNums (l0.drop (a1 : Int).toNat)) (⟨#[60, 47, 62]⟩ : ByteArray)).bind fun t131 => (if t131 = true then (some (4, wrap64 (a1 + 3), true)) else ((strings_HasPrefix.f (strOfNums (l0.drop (a1 : Int).toNat)) (⟨#[60, 47]⟩ : ByteArray)).bind fun t132 => (if t132 = true then (if ((strOfNums (l0.drop (a1 : Int).toNat)).size : Int) > 2 then (if 2 < ((strOfNums (l0.drop (a1 : Int).toNat)).size : Int) then ((class_Letter.f (wrap32 (bt (strOfNums (l0.drop (a1 : Int).toNat)) 2))).bind fun t133 => (if t133 = true then (some (0, 0, false)) else ((mark_behind.f kj2 (strOfNums (l0.drop (a1 : Int).toNat)) 2 (([(⟨#[62]⟩ : ByteArray)] : List ByteArray))).bind fun t137 => (some (3, wrap64 (a1 + t137), true))))) else (none)) else (some (0, 0, false))) else (some (0, 0, false))))))) = some (r1, r2, r3) := H
                have A34 := Aside0.mk A340
                clear A340
                by_cases c35 : t126 = true
                · subst c35
                  have H1 : ((mark_behind.f kj2 (strOfNums (l0.drop (a1 : Int).toNat)) 2 (([(⟨#[62]⟩ : ByteArray)] : List ByteArray))).bind fun t130 => (some (3, wrap64 (a1 + t130), true))) = some (r1, r2, r3) := by rw [if_pos rfl] at H; exact H
                  clear H
                  have H := H1
                  clear H1
                  obtain ⟨y127, hy127⟩ : ∃ y_ : List ByteArray, y_ = (([(⟨#[62]⟩ : ByteArray)] : List ByteArray)) := ⟨_, rfl⟩
                  replace H : ((mark_behind.f kj2 (strOfNums (l0.drop (a1 : Int).toNat)) 2 y127).bind fun t130 => (some (3, wrap64 (a1 + t130), true))) = some (r1, r2, r3) := by first | (rw [hy127]; with_reducible exact H) | (have H2_ := (Option.bind_some _ _).symm.trans H; rw [hy127]; with_reducible exact H2_) | (have H2_ := (Option.bind_some _ _).symm.trans H; with_reducible exact H2_) | with_reducible exact H | (rw [hy127]; exact H) | exact H
                  have Ny127 := Aside0.mk hy127
                  clear hy127
                  replace H := Option.bind_eq_some_iff.mp H
                  obtain ⟨t130, A360, H⟩ := H
                  replace H : (some (3, wrap64 (a1 + t130), true)) = some (r1, r2, r3) := H
                  have A36 := Aside0.mk A360
                  clear A360
                  simp only [Option.some.injEq, Prod.mk.injEq] at H
                  obtain ⟨rfl, rfl, rfl⟩ := H
                  obtain ⟨i037, hi037, _, hsz37, _⟩ := info_parts info5
                  obtain ⟨A37, hcut37, hA37, hC37⟩ := print_drop_of (P := Try.prog) (Value.int .u8) 0 22 5 .i64 Try.underlying22 hi037 hsz37 A0 c0 l0 a1 (of_decide_eq_true (by first | (with_reducible assumption) | assumption)) (of_decide_eq_true (by first | (with_reducible assumption) | assumption)) HC0.out
                  have HR116 := Aside0.mk (Kd.C_of_reads (h1 := fun _ => rfl) (hA37 _ (Kd.reads_of_C HR0.out)))
                  have HC116 := Aside0.mk hC37
                  clear hA37 hC37 hi037 hsz37
                  have hcv38 := Kd.C_string (P := Try.prog) (A := A37) (c := (c0 - a1.toNat)) Try.underlying22 Try.underlying5 Try.underlying9 (Kd.C_below HR116.out HB.out)
                  have hcw38 := hcv38
                  (try simp only [Int.reduceToNat] at hcw38)
                  (try rw [show (l0.drop (a1 : Int).toNat).length = (l0.length - a1.toNat) from List.length_drop] at hcw38)
                  go_wp2_with (first | ((with_reducible refine gate_callee (f := 20) rfl ?_); refine goesL_ (some 24) rfl rfl Try.func20 (by kernel_rfl) rfl #[.string (strOfNums (l0.drop (a1 : Int).toNat)), .string (⟨#[60, 33, 45, 45]⟩ : ByteArray)] rfl (by (try simp only [List.map_toArray, List.map_cons, List.map_nil]); first | done | rfl | (simp only [List.length_drop, List.length_take]; rfl)) ?_; (with_reducible refine (strings_HasPrefix.calls (strOfNums (l0.drop (a1 : Int).toNat)) (⟨#[60, 33, 45, 45]⟩ : ByteArray) false _ A8.out).mono ?_); rintro e w' ⟨rfl, ⟨nd, rfl⟩⟩; refine ⟨_, rfl, ?_⟩) | ((with_reducible refine gate_callee (f := 20) rfl ?_); refine goesL_ (some 29) rfl rfl Try.func20 (by kernel_rfl) rfl #[.string (strOfNums (l0.drop (a1 : Int).toNat)), .string (⟨#[60, 33]⟩ : ByteArray)] rfl (by (try simp only [List.map_toArray, List.map_cons, List.map_nil]); first | done | rfl | (simp only [List.length_drop, List.length_take]; rfl)) ?_; (with_reducible refine (strings_HasPrefix.calls (strOfNums (l0.drop (a1 : Int).toNat)) (⟨#[60, 33]⟩ : ByteArray) false _ A14.out).mono ?_); rintro e w' ⟨rfl, ⟨nd, rfl⟩⟩; refine ⟨_, rfl, ?_⟩) | ((with_reducible refine gate_callee (f := 20) rfl ?_); refine goesL_ (some 38) rfl rfl Try.func20 (by kernel_rfl) rfl #[.string (strOfNums (l0.drop (a1 : Int).toNat)), .string (⟨#[60, 63]⟩ : ByteArray)] rfl (by (try simp only [List.map_toArray, List.map_cons, List.map_nil]); first | done | rfl | (simp only [List.length_drop, List.length_take]; rfl)) ?_; (with_reducible refine (strings_HasPrefix.calls (strOfNums (l0.drop (a1 : Int).toNat)) (⟨#[60, 63]⟩ : ByteArray) true _ A34.out).mono ?_); rintro e w' ⟨rfl, ⟨nd, rfl⟩⟩; refine ⟨_, rfl, ?_⟩) | ((with_reducible refine gate_dst (N := 40) rfl ?_); (try (refine gate_guard (by rfl) ?_; dsimp only)); refine Kd.R_lit Kd.string _ 9 ?hg (N := 40) ?hd (xs := ([(⟨#[62]⟩ : ByteArray)] : List ByteArray)) (inner := [.string (⟨#[62]⟩ : ByteArray)]) (ok := fun _ => True) (okp := fun _ => True) ?hr ?hp (fun _ hk => hk) trivial (Below.refl _ _) (Nat.le_refl _) (by simp) ?_; (case hd => rfl); (case hg => rfl); (case hr => first | (go_simp; done) | (go_simp; rfl)); (case hp => exact (Reps.one (show Kd.M Kd.string _ _ _ (⟨#[62]⟩ : ByteArray) [.string (⟨#[62]⟩ : ByteArray)] from rfl) (Reps.none _ _))); intro v128 w39 ho40 hb hg_ hnew_; clear hg_ hnew_; (first | rw [← Ny127.out] at ho40 | (simp only [Int.reduceToNat] at ho40; rw [← Ny127.out] at ho40)); have n0_ := Aside0.mk (Kd.R_lower ho40 (below_size (by repeat (first | (with_reducible first | exact HB.out | apply below_alloc | apply pw_below_drewN | apply below_drew1) | exact HB.out)))); have n1_ := Aside0.mk (below_step (by repeat (first | (with_reducible first | exact HB.out | apply below_alloc | apply pw_below_drewN | apply below_drew1) | exact HB.out)) hb); clear HB; have HO129 := n0_; have HB := n1_; clear n0_ n1_; clear hb ho40; obtain ⟨Ao41, co41, eo41⟩ := Kd.R_slice HO129.out; subst eo41) | ((with_reducible refine gate_callee (f := 22) rfl ?_); refine goesL_ (some 41) rfl rfl Try.func22 (by kernel_rfl) rfl #[.string (strOfNums (l0.drop (a1 : Int).toNat)), .int .i64 2, .slice Ao41 y127.length co41] rfl (by (try simp only [List.map_toArray, List.map_cons, List.map_nil]); first | done | rfl | (simp only [List.length_drop, List.length_take]; rfl)) ?_; (with_reducible refine (mark_behind.calls kj2 (strOfNums (l0.drop (a1 : Int).toNat)) 2 _ _ y127 t130 _ (Wok_below hW (by repeat (first | (with_reducible first | exact HB.out | apply below_alloc | apply pw_below_drewN | apply below_drew1) | exact HB.out))) ?side1 ?side2 A36.out).mono ?_); (case side1 => repeat (first | exact (Kd.R_reads' HO129.out).2.2 | (with_reducible refine Kd.C_alloc ?_ _) | (with_reducible refine Kd.C_drewN ?_ _) | (with_reducible refine Kd.C_drew ?_))); (case side2 => exact (Kd.R_reads' HO129.out).2.1); rintro e w42 ⟨rfl, hb⟩; refine ⟨_, rfl, ?_⟩; have n0_ := Aside0.mk (Kd.R_below (by (with_reducible repeat (first | apply Kd.R_alloc | apply Kd.R_drewN | apply Kd.R_drew)); exact HO129.out) hb); have n1_ := Aside0.mk (below_step (by repeat (first | (with_reducible first | exact HB.out | apply below_alloc | apply pw_below_drewN | apply below_drew1) | exact HB.out)) hb); clear HO129; clear HB; have HO129 := n0_; have HB := n1_; clear n0_ n1_; (try clear hb); (try clear hb2); (try clear hk); (try clear hi)))
                  go_ret3
                  exact ⟨by first | rfl | (simp [errW_none, errW_some] <;> rfl) | (simp [*, errW_none, errW_some] <;> rfl), by repeat (first | (with_reducible first | exact HB.out | apply below_alloc | apply pw_below_drewN | apply below_drew1) | exact HB.out)⟩
                · replace c35 := Bool.eq_false_iff.mpr c35
                  subst c35
                  have H1 : ((strings_HasPrefix.f (strOfNums (l0.drop (a1 : Int).toNat)) (⟨#[60, 47, 62]⟩ : ByteArray)).bind fun t131 => (if t131 = true then (some (4, wrap64 (a1 + 3), true)) else ((strings_HasPrefix.f (strOfNums (l0.drop (a1 : Int).toNat)) (⟨#[60, 47]⟩ : ByteArray)).bind fun t132 => (if t132 = true then (if ((strOfNums (l0.drop (a1 : Int).toNat)).size : Int) > 2 then (if 2 < ((strOfNums (l0.drop (a1 : Int).toNat)).size : Int) then ((class_Letter.f (wrap32 (bt (strOfNums (l0.drop (a1 : Int).toNat)) 2))).bind fun t133 => (if t133 = true then (some (0, 0, false)) else ((mark_behind.f kj2 (strOfNums (l0.drop (a1 : Int).toNat)) 2 (([(⟨#[62]⟩ : ByteArray)] : List ByteArray))).bind fun t137 => (some (3, wrap64 (a1 + t137), true))))) else (none)) else (some (0, 0, false))) else (some (0, 0, false)))))) = some (r1, r2, r3) := by rw [if_neg (show ¬ (false = true) by decide)] at H; exact H
                  clear H
                  have H := H1
                  clear H1
                  replace H := Option.bind_eq_some_iff.mp H
                  obtain ⟨t131, A430, H⟩ := H
                  replace H : (if t131 = true then (some (4, wrap64 (a1 + 3), true)) else ((strings_HasPrefix.f (strOfNums (l0.drop (a1 : Int).toNat)) (⟨#[60, 47]⟩ : ByteArray)).bind fun t132 => (if t132 = true then (if ((strOfNums (l0.drop (a1 : Int).toNat)).size : Int) > 2 then (if 2 < ((strOfNums (l0.drop (a1 : Int).toNat)).size : Int) then ((class_Letter.f (wrap32 (bt (strOfNums (l0.drop (a1 : Int).toNat)) 2))).bind fun t133 => (if t133 = true then (some (0, 0, false)) else ((mark_behind.f kj2 (strOfNums (l0.drop (a1 : Int).toNat)) 2 (([(⟨#[62]⟩ : ByteArray)] : List ByteArray))).bind fun t137 => (some (3, wrap64 (a1 + t137), true))))) else (none)) else (some (0, 0, false))) else (some (0, 0, false))))) = some (r1, r2, r3) := H
                  have A43 := Aside0.mk A430
                  clear A430
                  by_cases c44 : t131 = true
                  · subst c44
                    have H1 : (some (4, wrap64 (a1 + 3), true)) = some (r1, r2, r3) := by rw [if_pos rfl] at H; exact H
                    clear H
                    have H := H1
                    clear H1
                    simp only [Option.some.injEq, Prod.mk.injEq] at H
                    obtain ⟨rfl, rfl, rfl⟩ := H
                    obtain ⟨i045, hi045, _, hsz45, _⟩ := info_parts info5
                    obtain ⟨A45, hcut45, hA45, hC45⟩ := print_drop_of (P := Try.prog) (Value.int .u8) 0 22 5 .i64 Try.underlying22 hi045 hsz45 A0 c0 l0 a1 (of_decide_eq_true (by first | (with_reducible assumption) | assumption)) (of_decide_eq_true (by first | (with_reducible assumption) | assumption)) HC0.out
                    have HR116 := Aside0.mk (Kd.C_of_reads (h1 := fun _ => rfl) (hA45 _ (Kd.reads_of_C HR0.out)))
                    have HC116 := Aside0.mk hC45
                    clear hA45 hC45 hi045 hsz45
                    have hcv46 := Kd.C_string (P := Try.prog) (A := A45) (c := (c0 - a1.toNat)) Try.underlying22 Try.underlying5 Try.underlying9 (Kd.C_below HR116.out HB.out)
                    have hcw46 := hcv46
                    (try simp only [Int.reduceToNat] at hcw46)
                    (try rw [show (l0.drop (a1 : Int).toNat).length = (l0.length - a1.toNat) from List.length_drop] at hcw46)
                    go_wp2_with (first | ((with_reducible refine gate_callee (f := 20) rfl ?_); refine goesL_ (some 24) rfl rfl Try.func20 (by kernel_rfl) rfl #[.string (strOfNums (l0.drop (a1 : Int).toNat)), .string (⟨#[60, 33, 45, 45]⟩ : ByteArray)] rfl (by (try simp only [List.map_toArray, List.map_cons, List.map_nil]); first | done | rfl | (simp only [List.length_drop, List.length_take]; rfl)) ?_; (with_reducible refine (strings_HasPrefix.calls (strOfNums (l0.drop (a1 : Int).toNat)) (⟨#[60, 33, 45, 45]⟩ : ByteArray) false _ A8.out).mono ?_); rintro e w' ⟨rfl, ⟨nd, rfl⟩⟩; refine ⟨_, rfl, ?_⟩) | ((with_reducible refine gate_callee (f := 20) rfl ?_); refine goesL_ (some 29) rfl rfl Try.func20 (by kernel_rfl) rfl #[.string (strOfNums (l0.drop (a1 : Int).toNat)), .string (⟨#[60, 33]⟩ : ByteArray)] rfl (by (try simp only [List.map_toArray, List.map_cons, List.map_nil]); first | done | rfl | (simp only [List.length_drop, List.length_take]; rfl)) ?_; (with_reducible refine (strings_HasPrefix.calls (strOfNums (l0.drop (a1 : Int).toNat)) (⟨#[60, 33]⟩ : ByteArray) false _ A14.out).mono ?_); rintro e w' ⟨rfl, ⟨nd, rfl⟩⟩; refine ⟨_, rfl, ?_⟩) | ((with_reducible refine gate_callee (f := 20) rfl ?_); refine goesL_ (some 38) rfl rfl Try.func20 (by kernel_rfl) rfl #[.string (strOfNums (l0.drop (a1 : Int).toNat)), .string (⟨#[60, 63]⟩ : ByteArray)] rfl (by (try simp only [List.map_toArray, List.map_cons, List.map_nil]); first | done | rfl | (simp only [List.length_drop, List.length_take]; rfl)) ?_; (with_reducible refine (strings_HasPrefix.calls (strOfNums (l0.drop (a1 : Int).toNat)) (⟨#[60, 63]⟩ : ByteArray) false _ A34.out).mono ?_); rintro e w' ⟨rfl, ⟨nd, rfl⟩⟩; refine ⟨_, rfl, ?_⟩) | ((with_reducible refine gate_callee (f := 20) rfl ?_); refine goesL_ (some 44) rfl rfl Try.func20 (by kernel_rfl) rfl #[.string (strOfNums (l0.drop (a1 : Int).toNat)), .string (⟨#[60, 47, 62]⟩ : ByteArray)] rfl (by (try simp only [List.map_toArray, List.map_cons, List.map_nil]); first | done | rfl | (simp only [List.length_drop, List.length_take]; rfl)) ?_; (with_reducible refine (strings_HasPrefix.calls (strOfNums (l0.drop (a1 : Int).toNat)) (⟨#[60, 47, 62]⟩ : ByteArray) true _ A43.out).mono ?_); rintro e w' ⟨rfl, ⟨nd, rfl⟩⟩; refine ⟨_, rfl, ?_⟩))
                    go_ret3
                    exact ⟨by first | rfl | (simp [errW_none, errW_some] <;> rfl) | (simp [*, errW_none, errW_some] <;> rfl), by repeat (first | (with_reducible first | exact HB.out | apply below_alloc | apply pw_below_drewN | apply below_drew1) | exact HB.out)⟩
                  · replace c44 := Bool.eq_false_iff.mpr c44
                    subst c44
                    have H1 : ((strings_HasPrefix.f (strOfNums (l0.drop (a1 : Int).toNat)) (⟨#[60, 47]⟩ : ByteArray)).bind fun t132 => (if t132 = true then (if ((strOfNums (l0.drop (a1 : Int).toNat)).size : Int) > 2 then (if 2 < ((strOfNums (l0.drop (a1 : Int).toNat)).size : Int) then ((class_Letter.f (wrap32 (bt (strOfNums (l0.drop (a1 : Int).toNat)) 2))).bind fun t133 => (if t133 = true then (some (0, 0, false)) else ((mark_behind.f kj2 (strOfNums (l0.drop (a1 : Int).toNat)) 2 (([(⟨#[62]⟩ : ByteArray)] : List ByteArray))).bind fun t137 => (some (3, wrap64 (a1 + t137), true))))) else (none)) else (some (0, 0, false))) else (some (0, 0, false)))) = some (r1, r2, r3) := by rw [if_neg (show ¬ (false = true) by decide)] at H; exact H
                    clear H
                    have H := H1
                    clear H1
                    replace H := Option.bind_eq_some_iff.mp H
                    obtain ⟨t132, A470, H⟩ := H
                    replace H : (if t132 = true then (if ((strOfNums (l0.drop (a1 : Int).toNat)).size : Int) > 2 then (if 2 < ((strOfNums (l0.drop (a1 : Int).toNat)).size : Int) then ((class_Letter.f (wrap32 (bt (strOfNums (l0.drop (a1 : Int).toNat)) 2))).bind fun t133 => (if t133 = true then (some (0, 0, false)) else ((mark_behind.f kj2 (strOfNums (l0.drop (a1 : Int).toNat)) 2 (([(⟨#[62]⟩ : ByteArray)] : List ByteArray))).bind fun t137 => (some (3, wrap64 (a1 + t137), true))))) else (none)) else (some (0, 0, false))) else (some (0, 0, false))) = some (r1, r2, r3) := H
                    have A47 := Aside0.mk A470
                    clear A470
                    by_cases c48 : t132 = true
                    · subst c48
                      have H1 : (if ((strOfNums (l0.drop (a1 : Int).toNat)).size : Int) > 2 then (if 2 < ((strOfNums (l0.drop (a1 : Int).toNat)).size : Int) then ((class_Letter.f (wrap32 (bt (strOfNums (l0.drop (a1 : Int).toNat)) 2))).bind fun t133 => (if t133 = true then (some (0, 0, false)) else ((mark_behind.f kj2 (strOfNums (l0.drop (a1 : Int).toNat)) 2 (([(⟨#[62]⟩ : ByteArray)] : List ByteArray))).bind fun t137 => (some (3, wrap64 (a1 + t137), true))))) else (none)) else (some (0, 0, false))) = some (r1, r2, r3) := by rw [if_pos rfl] at H; exact H
                      clear H
                      have H := H1
                      clear H1
                      by_cases c49 : ((strOfNums (l0.drop (a1 : Int).toNat)).size : Int) > 2
                      · rw [if_pos c49] at H
                        have c49b0 : decide (2 < ((strOfNums (l0.drop (a1 : Int).toNat)).size : Int)) = true := decide_eq_true c49
                        have c49b1 : decide (2 < (strOfNums (l0.drop (a1 : Int).toNat)).size) = true := decide_eq_true (by omega)
                        clear c49
                        by_cases c50 : 2 < ((strOfNums (l0.drop (a1 : Int).toNat)).size : Int)
                        · rw [if_pos c50] at H
                          have c50b0 : decide (2 < ((strOfNums (l0.drop (a1 : Int).toNat)).size : Int)) = true := decide_eq_true c50
                          have c50b1 : decide (2 < (strOfNums (l0.drop (a1 : Int).toNat)).size) = true := decide_eq_true (by omega)
                          clear c50
                          replace H := Option.bind_eq_some_iff.mp H
                          obtain ⟨t133, A520, H⟩ := H
                          replace H : (if t133 = true then (some (0, 0, false)) else ((mark_behind.f kj2 (strOfNums (l0.drop (a1 : Int).toNat)) 2 (([(⟨#[62]⟩ : ByteArray)] : List ByteArray))).bind fun t137 => (some (3, wrap64 (a1 + t137), true)))) = some (r1, r2, r3) := H
                          have A52 := Aside0.mk A520
                          clear A520
                          by_cases c53 : t133 = true
                          · subst c53
                            have H1 : (some (0, 0, false)) = some (r1, r2, r3) := by rw [if_pos rfl] at H; exact H
                            clear H
                            have H := H1
                            clear H1
                            simp only [Option.some.injEq, Prod.mk.injEq] at H
                            obtain ⟨rfl, rfl, rfl⟩ := H
                            obtain ⟨i054, hi054, _, hsz54, _⟩ := info_parts info5
                            obtain ⟨A54, hcut54, hA54, hC54⟩ := print_drop_of (P := Try.prog) (Value.int .u8) 0 22 5 .i64 Try.underlying22 hi054 hsz54 A0 c0 l0 a1 (of_decide_eq_true (by first | (with_reducible assumption) | assumption)) (of_decide_eq_true (by first | (with_reducible assumption) | assumption)) HC0.out
                            have HR116 := Aside0.mk (Kd.C_of_reads (h1 := fun _ => rfl) (hA54 _ (Kd.reads_of_C HR0.out)))
                            have HC116 := Aside0.mk hC54
                            clear hA54 hC54 hi054 hsz54
                            have hcv55 := Kd.C_string (P := Try.prog) (A := A54) (c := (c0 - a1.toNat)) Try.underlying22 Try.underlying5 Try.underlying9 (Kd.C_below HR116.out HB.out)
                            have hcw55 := hcv55
                            (try simp only [Int.reduceToNat] at hcw55)
                            (try rw [show (l0.drop (a1 : Int).toNat).length = (l0.length - a1.toNat) from List.length_drop] at hcw55)
                            go_wp2_with (first | ((with_reducible refine gate_callee (f := 20) rfl ?_); refine goesL_ (some 24) rfl rfl Try.func20 (by kernel_rfl) rfl #[.string (strOfNums (l0.drop (a1 : Int).toNat)), .string (⟨#[60, 33, 45, 45]⟩ : ByteArray)] rfl (by (try simp only [List.map_toArray, List.map_cons, List.map_nil]); first | done | rfl | (simp only [List.length_drop, List.length_take]; rfl)) ?_; (with_reducible refine (strings_HasPrefix.calls (strOfNums (l0.drop (a1 : Int).toNat)) (⟨#[60, 33, 45, 45]⟩ : ByteArray) false _ A8.out).mono ?_); rintro e w' ⟨rfl, ⟨nd, rfl⟩⟩; refine ⟨_, rfl, ?_⟩) | ((with_reducible refine gate_callee (f := 20) rfl ?_); refine goesL_ (some 29) rfl rfl Try.func20 (by kernel_rfl) rfl #[.string (strOfNums (l0.drop (a1 : Int).toNat)), .string (⟨#[60, 33]⟩ : ByteArray)] rfl (by (try simp only [List.map_toArray, List.map_cons, List.map_nil]); first | done | rfl | (simp only [List.length_drop, List.length_take]; rfl)) ?_; (with_reducible refine (strings_HasPrefix.calls (strOfNums (l0.drop (a1 : Int).toNat)) (⟨#[60, 33]⟩ : ByteArray) false _ A14.out).mono ?_); rintro e w' ⟨rfl, ⟨nd, rfl⟩⟩; refine ⟨_, rfl, ?_⟩) | ((with_reducible refine gate_callee (f := 20) rfl ?_); refine goesL_ (some 38) rfl rfl Try.func20 (by kernel_rfl) rfl #[.string (strOfNums (l0.drop (a1 : Int).toNat)), .string (⟨#[60, 63]⟩ : ByteArray)] rfl (by (try simp only [List.map_toArray, List.map_cons, List.map_nil]); first | done | rfl | (simp only [List.length_drop, List.length_take]; rfl)) ?_; (with_reducible refine (strings_HasPrefix.calls (strOfNums (l0.drop (a1 : Int).toNat)) (⟨#[60, 63]⟩ : ByteArray) false _ A34.out).mono ?_); rintro e w' ⟨rfl, ⟨nd, rfl⟩⟩; refine ⟨_, rfl, ?_⟩) | ((with_reducible refine gate_callee (f := 20) rfl ?_); refine goesL_ (some 44) rfl rfl Try.func20 (by kernel_rfl) rfl #[.string (strOfNums (l0.drop (a1 : Int).toNat)), .string (⟨#[60, 47, 62]⟩ : ByteArray)] rfl (by (try simp only [List.map_toArray, List.map_cons, List.map_nil]); first | done | rfl | (simp only [List.length_drop, List.length_take]; rfl)) ?_; (with_reducible refine (strings_HasPrefix.calls (strOfNums (l0.drop (a1 : Int).toNat)) (⟨#[60, 47, 62]⟩ : ByteArray) false _ A43.out).mono ?_); rintro e w' ⟨rfl, ⟨nd, rfl⟩⟩; refine ⟨_, rfl, ?_⟩) | ((with_reducible refine gate_callee (f := 20) rfl ?_); refine goesL_ (some 47) rfl rfl Try.func20 (by kernel_rfl) rfl #[.string (strOfNums (l0.drop (a1 : Int).toNat)), .string (⟨#[60, 47]⟩ : ByteArray)] rfl (by (try simp only [List.map_toArray, List.map_cons, List.map_nil]); first | done | rfl | (simp only [List.length_drop, List.length_take]; rfl)) ?_; (with_reducible refine (strings_HasPrefix.calls (strOfNums (l0.drop (a1 : Int).toNat)) (⟨#[60, 47]⟩ : ByteArray) true _ A47.out).mono ?_); rintro e w' ⟨rfl, ⟨nd, rfl⟩⟩; refine ⟨_, rfl, ?_⟩; have p51 : 0 ≤ (2 : Int) := (by omega); have q51 : 2 < (strOfNums (l0.drop (a1 : Int).toNat)).size := (by have : (2 : Int) < ((strOfNums (l0.drop (a1 : Int).toNat)).size : Int) := of_decide_eq_true (by first | (with_reducible assumption) | assumption); omega); have hx51 : ∀ h : 2 < (strOfNums (l0.drop (a1 : Int).toNat)).size, (((strOfNums (l0.drop (a1 : Int).toNat))[2]'h).toNat : Int) = bt (strOfNums (l0.drop (a1 : Int).toNat)) 2 := bt_at (strOfNums (l0.drop (a1 : Int).toNat)) 2; clear p51; have qi51 : (2 < ((strOfNums (l0.drop (a1 : Int).toNat)).size : Int)) = True := eq_true (of_decide_eq_true (by first | (with_reducible assumption) | assumption)); replace q51 := eq_true q51) | (go_at_call 24; (with_reducible refine (class_Letter.calls (wrap32 (bt (strOfNums (l0.drop (a1 : Int).toNat)) 2)) true _ A52.out).mono ?_); rintro e w' ⟨rfl, ⟨nd, rfl⟩⟩))
                            go_ret3
                            exact ⟨by first | rfl | (simp [errW_none, errW_some] <;> rfl) | (simp [*, errW_none, errW_some] <;> rfl), by repeat (first | (with_reducible first | exact HB.out | apply below_alloc | apply pw_below_drewN | apply below_drew1) | exact HB.out)⟩
                          · replace c53 := Bool.eq_false_iff.mpr c53
                            subst c53
                            have H1 : ((mark_behind.f kj2 (strOfNums (l0.drop (a1 : Int).toNat)) 2 (([(⟨#[62]⟩ : ByteArray)] : List ByteArray))).bind fun t137 => (some (3, wrap64 (a1 + t137), true))) = some (r1, r2, r3) := by rw [if_neg (show ¬ (false = true) by decide)] at H; exact H
                            clear H
                            have H := H1
                            clear H1
                            obtain ⟨y134, hy134⟩ : ∃ y_ : List ByteArray, y_ = (([(⟨#[62]⟩ : ByteArray)] : List ByteArray)) := ⟨_, rfl⟩
                            replace H : ((mark_behind.f kj2 (strOfNums (l0.drop (a1 : Int).toNat)) 2 y134).bind fun t137 => (some (3, wrap64 (a1 + t137), true))) = some (r1, r2, r3) := by first | (rw [hy134]; with_reducible exact H) | (have H2_ := (Option.bind_some _ _).symm.trans H; rw [hy134]; with_reducible exact H2_) | (have H2_ := (Option.bind_some _ _).symm.trans H; with_reducible exact H2_) | with_reducible exact H | (rw [hy134]; exact H) | exact H
                            have Ny134 := Aside0.mk hy134
                            clear hy134
                            replace H := Option.bind_eq_some_iff.mp H
                            obtain ⟨t137, A560, H⟩ := H
                            replace H : (some (3, wrap64 (a1 + t137), true)) = some (r1, r2, r3) := H
                            have A56 := Aside0.mk A560
                            clear A560
                            simp only [Option.some.injEq, Prod.mk.injEq] at H
                            obtain ⟨rfl, rfl, rfl⟩ := H
                            obtain ⟨i057, hi057, _, hsz57, _⟩ := info_parts info5
                            obtain ⟨A57, hcut57, hA57, hC57⟩ := print_drop_of (P := Try.prog) (Value.int .u8) 0 22 5 .i64 Try.underlying22 hi057 hsz57 A0 c0 l0 a1 (of_decide_eq_true (by first | (with_reducible assumption) | assumption)) (of_decide_eq_true (by first | (with_reducible assumption) | assumption)) HC0.out
                            have HR116 := Aside0.mk (Kd.C_of_reads (h1 := fun _ => rfl) (hA57 _ (Kd.reads_of_C HR0.out)))
                            have HC116 := Aside0.mk hC57
                            clear hA57 hC57 hi057 hsz57
                            have hcv58 := Kd.C_string (P := Try.prog) (A := A57) (c := (c0 - a1.toNat)) Try.underlying22 Try.underlying5 Try.underlying9 (Kd.C_below HR116.out HB.out)
                            have hcw58 := hcv58
                            (try simp only [Int.reduceToNat] at hcw58)
                            (try rw [show (l0.drop (a1 : Int).toNat).length = (l0.length - a1.toNat) from List.length_drop] at hcw58)
                            go_wp2_with (first | ((with_reducible refine gate_callee (f := 20) rfl ?_); refine goesL_ (some 24) rfl rfl Try.func20 (by kernel_rfl) rfl #[.string (strOfNums (l0.drop (a1 : Int).toNat)), .string (⟨#[60, 33, 45, 45]⟩ : ByteArray)] rfl (by (try simp only [List.map_toArray, List.map_cons, List.map_nil]); first | done | rfl | (simp only [List.length_drop, List.length_take]; rfl)) ?_; (with_reducible refine (strings_HasPrefix.calls (strOfNums (l0.drop (a1 : Int).toNat)) (⟨#[60, 33, 45, 45]⟩ : ByteArray) false _ A8.out).mono ?_); rintro e w' ⟨rfl, ⟨nd, rfl⟩⟩; refine ⟨_, rfl, ?_⟩) | ((with_reducible refine gate_callee (f := 20) rfl ?_); refine goesL_ (some 29) rfl rfl Try.func20 (by kernel_rfl) rfl #[.string (strOfNums (l0.drop (a1 : Int).toNat)), .string (⟨#[60, 33]⟩ : ByteArray)] rfl (by (try simp only [List.map_toArray, List.map_cons, List.map_nil]); first | done | rfl | (simp only [List.length_drop, List.length_take]; rfl)) ?_; (with_reducible refine (strings_HasPrefix.calls (strOfNums (l0.drop (a1 : Int).toNat)) (⟨#[60, 33]⟩ : ByteArray) false _ A14.out).mono ?_); rintro e w' ⟨rfl, ⟨nd, rfl⟩⟩; refine ⟨_, rfl, ?_⟩) | ((with_reducible refine gate_callee (f := 20) rfl ?_); refine goesL_ (some 38) rfl rfl Try.func20 (by kernel_rfl) rfl #[.string (strOfNums (l0.drop (a1 : Int).toNat)), .string (⟨#[60, 63]⟩ : ByteArray)] rfl (by (try simp only [List.map_toArray, List.map_cons, List.map_nil]); first | done | rfl | (simp only [List.length_drop, List.length_take]; rfl)) ?_; (with_reducible refine (strings_HasPrefix.calls (strOfNums (l0.drop (a1 : Int).toNat)) (⟨#[60, 63]⟩ : ByteArray) false _ A34.out).mono ?_); rintro e w' ⟨rfl, ⟨nd, rfl⟩⟩; refine ⟨_, rfl, ?_⟩) | ((with_reducible refine gate_callee (f := 20) rfl ?_); refine goesL_ (some 44) rfl rfl Try.func20 (by kernel_rfl) rfl #[.string (strOfNums (l0.drop (a1 : Int).toNat)), .string (⟨#[60, 47, 62]⟩ : ByteArray)] rfl (by (try simp only [List.map_toArray, List.map_cons, List.map_nil]); first | done | rfl | (simp only [List.length_drop, List.length_take]; rfl)) ?_; (with_reducible refine (strings_HasPrefix.calls (strOfNums (l0.drop (a1 : Int).toNat)) (⟨#[60, 47, 62]⟩ : ByteArray) false _ A43.out).mono ?_); rintro e w' ⟨rfl, ⟨nd, rfl⟩⟩; refine ⟨_, rfl, ?_⟩) | ((with_reducible refine gate_callee (f := 20) rfl ?_); refine goesL_ (some 47) rfl rfl Try.func20 (by kernel_rfl) rfl #[.string (strOfNums (l0.drop (a1 : Int).toNat)), .string (⟨#[60, 47]⟩ : ByteArray)] rfl (by (try simp only [List.map_toArray, List.map_cons, List.map_nil]); first | done | rfl | (simp only [List.length_drop, List.length_take]; rfl)) ?_; (with_reducible refine (strings_HasPrefix.calls (strOfNums (l0.drop (a1 : Int).toNat)) (⟨#[60, 47]⟩ : ByteArray) true _ A47.out).mono ?_); rintro e w' ⟨rfl, ⟨nd, rfl⟩⟩; refine ⟨_, rfl, ?_⟩; have p51 : 0 ≤ (2 : Int) := (by omega); have q51 : 2 < (strOfNums (l0.drop (a1 : Int).toNat)).size := (by have : (2 : Int) < ((strOfNums (l0.drop (a1 : Int).toNat)).size : Int) := of_decide_eq_true (by first | (with_reducible assumption) | assumption); omega); have hx51 : ∀ h : 2 < (strOfNums (l0.drop (a1 : Int).toNat)).size, (((strOfNums (l0.drop (a1 : Int).toNat))[2]'h).toNat : Int) = bt (strOfNums (l0.drop (a1 : Int).toNat)) 2 := bt_at (strOfNums (l0.drop (a1 : Int).toNat)) 2; clear p51; have qi51 : (2 < ((strOfNums (l0.drop (a1 : Int).toNat)).size : Int)) = True := eq_true (of_decide_eq_true (by first | (with_reducible assumption) | assumption)); replace q51 := eq_true q51) | (go_at_call 24; (with_reducible refine (class_Letter.calls (wrap32 (bt (strOfNums (l0.drop (a1 : Int).toNat)) 2)) false _ A52.out).mono ?_); rintro e w' ⟨rfl, ⟨nd, rfl⟩⟩) | ((with_reducible refine gate_dst (N := 61) rfl ?_); (try (refine gate_guard (by rfl) ?_; dsimp only)); refine Kd.R_lit Kd.string _ 9 ?hg (N := 61) ?hd (xs := ([(⟨#[62]⟩ : ByteArray)] : List ByteArray)) (inner := [.string (⟨#[62]⟩ : ByteArray)]) (ok := fun _ => True) (okp := fun _ => True) ?hr ?hp (fun _ hk => hk) trivial (Below.refl _ _) (Nat.le_refl _) (by simp) ?_; (case hd => rfl); (case hg => rfl); (case hr => first | (go_simp; done) | (go_simp; rfl)); (case hp => exact (Reps.one (show Kd.M Kd.string _ _ _ (⟨#[62]⟩ : ByteArray) [.string (⟨#[62]⟩ : ByteArray)] from rfl) (Reps.none _ _))); intro v135 w59 ho60 hb hg_ hnew_; clear hg_ hnew_; (first | rw [← Ny134.out] at ho60 | (simp only [Int.reduceToNat] at ho60; rw [← Ny134.out] at ho60)); have n0_ := Aside0.mk (Kd.R_lower ho60 (below_size (by repeat (first | (with_reducible first | exact HB.out | apply below_alloc | apply pw_below_drewN | apply below_drew1) | exact HB.out)))); have n1_ := Aside0.mk (below_step (by repeat (first | (with_reducible first | exact HB.out | apply below_alloc | apply pw_below_drewN | apply below_drew1) | exact HB.out)) hb); clear HB; have HO136 := n0_; have HB := n1_; clear n0_ n1_; clear hb ho60; obtain ⟨Ao61, co61, eo61⟩ := Kd.R_slice HO136.out; subst eo61) | ((with_reducible refine gate_callee (f := 22) rfl ?_); refine goesL_ (some 62) rfl rfl Try.func22 (by kernel_rfl) rfl #[.string (strOfNums (l0.drop (a1 : Int).toNat)), .int .i64 2, .slice Ao61 y134.length co61] rfl (by (try simp only [List.map_toArray, List.map_cons, List.map_nil]); first | done | rfl | (simp only [List.length_drop, List.length_take]; rfl)) ?_; (with_reducible refine (mark_behind.calls kj2 (strOfNums (l0.drop (a1 : Int).toNat)) 2 _ _ y134 t137 _ (Wok_below hW (by repeat (first | (with_reducible first | exact HB.out | apply below_alloc | apply pw_below_drewN | apply below_drew1) | exact HB.out))) ?side1 ?side2 A56.out).mono ?_); (case side1 => repeat (first | exact (Kd.R_reads' HO136.out).2.2 | (with_reducible refine Kd.C_alloc ?_ _) | (with_reducible refine Kd.C_drewN ?_ _) | (with_reducible refine Kd.C_drew ?_))); (case side2 => exact (Kd.R_reads' HO136.out).2.1); rintro e w62 ⟨rfl, hb⟩; refine ⟨_, rfl, ?_⟩; have n0_ := Aside0.mk (Kd.R_below (by (with_reducible repeat (first | apply Kd.R_alloc | apply Kd.R_drewN | apply Kd.R_drew)); exact HO136.out) hb); have n1_ := Aside0.mk (below_step (by repeat (first | (with_reducible first | exact HB.out | apply below_alloc | apply pw_below_drewN | apply below_drew1) | exact HB.out)) hb); clear HO136; clear HB; have HO136 := n0_; have HB := n1_; clear n0_ n1_; (try clear hb); (try clear hb2); (try clear hk); (try clear hi)))
                            go_ret3
                            exact ⟨by first | rfl | (simp [errW_none, errW_some] <;> rfl) | (simp [*, errW_none, errW_some] <;> rfl), by repeat (first | (with_reducible first | exact HB.out | apply below_alloc | apply pw_below_drewN | apply below_drew1) | exact HB.out)⟩
                        · rw [if_neg c50] at H
                          exact absurd H (by simp)
                      · rw [if_neg c49] at H
                        have c49b0 : decide (2 < ((strOfNums (l0.drop (a1 : Int).toNat)).size : Int)) = false := decide_eq_false c49
                        have c49b1 : decide (2 < (strOfNums (l0.drop (a1 : Int).toNat)).size) = false := decide_eq_false (by omega)
                        clear c49
                        simp only [Option.some.injEq, Prod.mk.injEq] at H
                        obtain ⟨rfl, rfl, rfl⟩ := H
                        obtain ⟨i063, hi063, _, hsz63, _⟩ := info_parts info5
                        obtain ⟨A63, hcut63, hA63, hC63⟩ := print_drop_of (P := Try.prog) (Value.int .u8) 0 22 5 .i64 Try.underlying22 hi063 hsz63 A0 c0 l0 a1 (of_decide_eq_true (by first | (with_reducible assumption) | assumption)) (of_decide_eq_true (by first | (with_reducible assumption) | assumption)) HC0.out
                        have HR116 := Aside0.mk (Kd.C_of_reads (h1 := fun _ => rfl) (hA63 _ (Kd.reads_of_C HR0.out)))
                        have HC116 := Aside0.mk hC63
                        clear hA63 hC63 hi063 hsz63
                        have hcv64 := Kd.C_string (P := Try.prog) (A := A63) (c := (c0 - a1.toNat)) Try.underlying22 Try.underlying5 Try.underlying9 (Kd.C_below HR116.out HB.out)
                        have hcw64 := hcv64
                        (try simp only [Int.reduceToNat] at hcw64)
                        (try rw [show (l0.drop (a1 : Int).toNat).length = (l0.length - a1.toNat) from List.length_drop] at hcw64)
                        go_wp2_with (first | ((with_reducible refine gate_callee (f := 20) rfl ?_); refine goesL_ (some 24) rfl rfl Try.func20 (by kernel_rfl) rfl #[.string (strOfNums (l0.drop (a1 : Int).toNat)), .string (⟨#[60, 33, 45, 45]⟩ : ByteArray)] rfl (by (try simp only [List.map_toArray, List.map_cons, List.map_nil]); first | done | rfl | (simp only [List.length_drop, List.length_take]; rfl)) ?_; (with_reducible refine (strings_HasPrefix.calls (strOfNums (l0.drop (a1 : Int).toNat)) (⟨#[60, 33, 45, 45]⟩ : ByteArray) false _ A8.out).mono ?_); rintro e w' ⟨rfl, ⟨nd, rfl⟩⟩; refine ⟨_, rfl, ?_⟩) | ((with_reducible refine gate_callee (f := 20) rfl ?_); refine goesL_ (some 29) rfl rfl Try.func20 (by kernel_rfl) rfl #[.string (strOfNums (l0.drop (a1 : Int).toNat)), .string (⟨#[60, 33]⟩ : ByteArray)] rfl (by (try simp only [List.map_toArray, List.map_cons, List.map_nil]); first | done | rfl | (simp only [List.length_drop, List.length_take]; rfl)) ?_; (with_reducible refine (strings_HasPrefix.calls (strOfNums (l0.drop (a1 : Int).toNat)) (⟨#[60, 33]⟩ : ByteArray) false _ A14.out).mono ?_); rintro e w' ⟨rfl, ⟨nd, rfl⟩⟩; refine ⟨_, rfl, ?_⟩) | ((with_reducible refine gate_callee (f := 20) rfl ?_); refine goesL_ (some 38) rfl rfl Try.func20 (by kernel_rfl) rfl #[.string (strOfNums (l0.drop (a1 : Int).toNat)), .string (⟨#[60, 63]⟩ : ByteArray)] rfl (by (try simp only [List.map_toArray, List.map_cons, List.map_nil]); first | done | rfl | (simp only [List.length_drop, List.length_take]; rfl)) ?_; (with_reducible refine (strings_HasPrefix.calls (strOfNums (l0.drop (a1 : Int).toNat)) (⟨#[60, 63]⟩ : ByteArray) false _ A34.out).mono ?_); rintro e w' ⟨rfl, ⟨nd, rfl⟩⟩; refine ⟨_, rfl, ?_⟩) | ((with_reducible refine gate_callee (f := 20) rfl ?_); refine goesL_ (some 44) rfl rfl Try.func20 (by kernel_rfl) rfl #[.string (strOfNums (l0.drop (a1 : Int).toNat)), .string (⟨#[60, 47, 62]⟩ : ByteArray)] rfl (by (try simp only [List.map_toArray, List.map_cons, List.map_nil]); first | done | rfl | (simp only [List.length_drop, List.length_take]; rfl)) ?_; (with_reducible refine (strings_HasPrefix.calls (strOfNums (l0.drop (a1 : Int).toNat)) (⟨#[60, 47, 62]⟩ : ByteArray) false _ A43.out).mono ?_); rintro e w' ⟨rfl, ⟨nd, rfl⟩⟩; refine ⟨_, rfl, ?_⟩) | ((with_reducible refine gate_callee (f := 20) rfl ?_); refine goesL_ (some 47) rfl rfl Try.func20 (by kernel_rfl) rfl #[.string (strOfNums (l0.drop (a1 : Int).toNat)), .string (⟨#[60, 47]⟩ : ByteArray)] rfl (by (try simp only [List.map_toArray, List.map_cons, List.map_nil]); first | done | rfl | (simp only [List.length_drop, List.length_take]; rfl)) ?_; (with_reducible refine (strings_HasPrefix.calls (strOfNums (l0.drop (a1 : Int).toNat)) (⟨#[60, 47]⟩ : ByteArray) true _ A47.out).mono ?_); rintro e w' ⟨rfl, ⟨nd, rfl⟩⟩; refine ⟨_, rfl, ?_⟩))
                        go_ret3
                        exact ⟨by first | rfl | (simp [errW_none, errW_some] <;> rfl) | (simp [*, errW_none, errW_some] <;> rfl), by repeat (first | (with_reducible first | exact HB.out | apply below_alloc | apply pw_below_drewN | apply below_drew1) | exact HB.out)⟩
                    · replace c48 := Bool.eq_false_iff.mpr c48
                      subst c48
                      have H1 : (some (0, 0, false)) = some (r1, r2, r3) := by rw [if_neg (show ¬ (false = true) by decide)] at H; exact H
                      clear H
                      have H := H1
                      clear H1
                      simp only [Option.some.injEq, Prod.mk.injEq] at H
                      obtain ⟨rfl, rfl, rfl⟩ := H
                      obtain ⟨i065, hi065, _, hsz65, _⟩ := info_parts info5
                      obtain ⟨A65, hcut65, hA65, hC65⟩ := print_drop_of (P := Try.prog) (Value.int .u8) 0 22 5 .i64 Try.underlying22 hi065 hsz65 A0 c0 l0 a1 (of_decide_eq_true (by first | (with_reducible assumption) | assumption)) (of_decide_eq_true (by first | (with_reducible assumption) | assumption)) HC0.out
                      have HR116 := Aside0.mk (Kd.C_of_reads (h1 := fun _ => rfl) (hA65 _ (Kd.reads_of_C HR0.out)))
                      have HC116 := Aside0.mk hC65
                      clear hA65 hC65 hi065 hsz65
                      have hcv66 := Kd.C_string (P := Try.prog) (A := A65) (c := (c0 - a1.toNat)) Try.underlying22 Try.underlying5 Try.underlying9 (Kd.C_below HR116.out HB.out)
                      have hcw66 := hcv66
                      (try simp only [Int.reduceToNat] at hcw66)
                      (try rw [show (l0.drop (a1 : Int).toNat).length = (l0.length - a1.toNat) from List.length_drop] at hcw66)
                      go_wp2_with (first | ((with_reducible refine gate_callee (f := 20) rfl ?_); refine goesL_ (some 24) rfl rfl Try.func20 (by kernel_rfl) rfl #[.string (strOfNums (l0.drop (a1 : Int).toNat)), .string (⟨#[60, 33, 45, 45]⟩ : ByteArray)] rfl (by (try simp only [List.map_toArray, List.map_cons, List.map_nil]); first | done | rfl | (simp only [List.length_drop, List.length_take]; rfl)) ?_; (with_reducible refine (strings_HasPrefix.calls (strOfNums (l0.drop (a1 : Int).toNat)) (⟨#[60, 33, 45, 45]⟩ : ByteArray) false _ A8.out).mono ?_); rintro e w' ⟨rfl, ⟨nd, rfl⟩⟩; refine ⟨_, rfl, ?_⟩) | ((with_reducible refine gate_callee (f := 20) rfl ?_); refine goesL_ (some 29) rfl rfl Try.func20 (by kernel_rfl) rfl #[.string (strOfNums (l0.drop (a1 : Int).toNat)), .string (⟨#[60, 33]⟩ : ByteArray)] rfl (by (try simp only [List.map_toArray, List.map_cons, List.map_nil]); first | done | rfl | (simp only [List.length_drop, List.length_take]; rfl)) ?_; (with_reducible refine (strings_HasPrefix.calls (strOfNums (l0.drop (a1 : Int).toNat)) (⟨#[60, 33]⟩ : ByteArray) false _ A14.out).mono ?_); rintro e w' ⟨rfl, ⟨nd, rfl⟩⟩; refine ⟨_, rfl, ?_⟩) | ((with_reducible refine gate_callee (f := 20) rfl ?_); refine goesL_ (some 38) rfl rfl Try.func20 (by kernel_rfl) rfl #[.string (strOfNums (l0.drop (a1 : Int).toNat)), .string (⟨#[60, 63]⟩ : ByteArray)] rfl (by (try simp only [List.map_toArray, List.map_cons, List.map_nil]); first | done | rfl | (simp only [List.length_drop, List.length_take]; rfl)) ?_; (with_reducible refine (strings_HasPrefix.calls (strOfNums (l0.drop (a1 : Int).toNat)) (⟨#[60, 63]⟩ : ByteArray) false _ A34.out).mono ?_); rintro e w' ⟨rfl, ⟨nd, rfl⟩⟩; refine ⟨_, rfl, ?_⟩) | ((with_reducible refine gate_callee (f := 20) rfl ?_); refine goesL_ (some 44) rfl rfl Try.func20 (by kernel_rfl) rfl #[.string (strOfNums (l0.drop (a1 : Int).toNat)), .string (⟨#[60, 47, 62]⟩ : ByteArray)] rfl (by (try simp only [List.map_toArray, List.map_cons, List.map_nil]); first | done | rfl | (simp only [List.length_drop, List.length_take]; rfl)) ?_; (with_reducible refine (strings_HasPrefix.calls (strOfNums (l0.drop (a1 : Int).toNat)) (⟨#[60, 47, 62]⟩ : ByteArray) false _ A43.out).mono ?_); rintro e w' ⟨rfl, ⟨nd, rfl⟩⟩; refine ⟨_, rfl, ?_⟩) | ((with_reducible refine gate_callee (f := 20) rfl ?_); refine goesL_ (some 47) rfl rfl Try.func20 (by kernel_rfl) rfl #[.string (strOfNums (l0.drop (a1 : Int).toNat)), .string (⟨#[60, 47]⟩ : ByteArray)] rfl (by (try simp only [List.map_toArray, List.map_cons, List.map_nil]); first | done | rfl | (simp only [List.length_drop, List.length_take]; rfl)) ?_; (with_reducible refine (strings_HasPrefix.calls (strOfNums (l0.drop (a1 : Int).toNat)) (⟨#[60, 47]⟩ : ByteArray) false _ A47.out).mono ?_); rintro e w' ⟨rfl, ⟨nd, rfl⟩⟩; refine ⟨_, rfl, ?_⟩))
                      go_ret3
                      exact ⟨by first | rfl | (simp [errW_none, errW_some] <;> rfl) | (simp [*, errW_none, errW_some] <;> rfl), by repeat (first | (with_reducible first | exact HB.out | apply below_alloc | apply pw_below_drewN | apply below_drew1) | exact HB.out)⟩
          · rw [if_neg c7] at H
            exact absurd H (by simp)
        · rw [if_neg c6] at H
          exact absurd H (by simp)

/-! ### decanterlaw08_speaks: function 14 -/
def decanterlaw08_speaks.f : Option Bool := some true
theorem decanterlaw08_speaks.bytesC (w : World) (L : List Int) (e : TypeId) (fr : Nat × Nat) (hL : L.length ≤ 9223372036854775807) : Kd.C (Kd.int .u8) (w.alloc (.cells (L.map (Value.int .u8)).toArray e fr)) (some ⟨w.heap.size, 0, none⟩) L.length L := by
  refine Kd.C_of_reads (d := (0 : Int)) (h1 := fun _ => rfl) ⟨rfl, hL, fun _ => ⟨_, rfl, fun j hj => ?_⟩⟩
  have h1 := World.cell?_alloc_mark w (L.map (Value.int .u8)).toArray e fr j
  have h2 : (⟨w.heap.size, 0, none⟩ : Addr).add j = ⟨w.heap.size, j, none⟩ := by simp [Addr.add]; exact fun h => h.symm
  rw [h2, h1]
  simp [List.getD_eq_getElem?_getD, List.getElem?_eq_getElem hj]
set_option maxRecDepth 100000 in
set_option maxHeartbeats 4000000 in
theorem decanterlaw08_speaks.calls (r : Bool) (w : World) (hW : Wok w) (h : decanterlaw08_speaks.f = some r) :
    Calls Try.prog 14 #[] w fun e w' => e = .returned (.bool r) ∧ Below w.heap.size w w' := by
  obtain rfl := Option.some.inj h
  have kc := fun (w : World) (C : Array Value) (n c : Nat) => Lib.run_convert_bytes_const (P := Try.prog) w 22 5 C n c Try.underlying22 Try.underlying5
  have hC := decanterlaw08_speaks.bytesC w [60, 33, 45, 45, 32, 97, 32, 45, 45, 62, 32, 98] 5 (12, 13) (by decide)
  have hE : mark_Read.f 40 [60, 33, 45, 45, 32, 97, 32, 45, 45, 62, 32, 98] 0 = some (1, 10, true) := by decide +kernel
  have hb0 : Below w.heap.size w (w.alloc (.cells ([60, 33, 45, 45, 32, 97, 32, 45, 45, 62, 32, 98].map (Value.int .u8)).toArray 5 (12, 13))) := (Below.refl _ _).alloc (Nat.le_refl _) _
  have hW1 := Wok_below hW hb0
  go_enter Try.func14, Try.ntmps14
  go_wp2_with (go_at_call 15; refine (mark_Read.calls 40 (some ⟨w.heap.size, 0, none⟩) 12 [60, 33, 45, 45, 32, 97, 32, 45, 45, 62, 32, 98] 0 1 10 true _ hW1 hC (by decide) hE).mono ?_; rintro e w1 ⟨rfl, hb1⟩)
  go_ret
  refine ⟨rfl, ?_⟩
  have hb2 := hb0.trans (hb1.mono hb0.size)
  exact ⟨hb2.os, hb2.tape, hb2.output, hb2.size, hb2.block⟩

/-! ### tag_letter: function 25 -/
def tag_letter.f (l0 : List Int) (a1 : Int) : Option (Bool) := if a1 < (l0.length : Int) then (if 0 ≤ a1 then ((class_Letter.f (wrap32 (rd l0 a1))).bind fun t139 => (some t139)) else (none)) else (some false)
set_option maxHeartbeats 8000000 in
set_option maxRecDepth 100000 in
theorem tag_letter.calls (A0 : Option Addr) (c0 : Nat) (l0 : List Int) (a1 : Int) (r : Bool) (w : World) (hr0 : Kd.C (Kd.int .u8) w A0 l0.length l0) (hc0 : l0.length ≤ c0) (h : tag_letter.f l0 a1 = some r) :
    Calls Try.prog 25 #[.slice A0 l0.length c0, .int .i64 a1] w fun e w' => e = .returned (.bool r) ∧ Drawn0 w w' := by
  have HR0 := Aside0.mk hr0
  have HC0 := Aside0.mk hc0
  clear hr0 hc0
  have H : (if a1 < (l0.length : Int) then (if 0 ≤ a1 then ((class_Letter.f (wrap32 (rd l0 a1))).bind fun t139 => (some t139)) else (none)) else (some false)) = some r := h
  clear h
  by_cases c3 : a1 < (l0.length : Int)
  · rw [if_pos c3] at H
    have c3b0 : decide (a1 < (l0.length : Int)) = true := decide_eq_true c3
    clear c3
    by_cases c4 : 0 ≤ a1
    · rw [if_pos c4] at H
      have c4b0 : decide (0 ≤ a1) = true := decide_eq_true c4
      clear c4
      replace H := Option.bind_eq_some_iff.mp H
      obtain ⟨t139, A50, H⟩ := H
      replace H : (some t139) = some r := H
      have A5 := Aside0.mk A50
      clear A50
      obtain rfl := Option.some.inj H
      have p138 : 0 ≤ (a1 : Int) := of_decide_eq_true (by first | (with_reducible assumption) | assumption)
      have q138 : a1 < (l0.length : Int) := of_decide_eq_true (by first | (with_reducible assumption) | assumption)
      obtain ⟨ad138, e138, hx138_0⟩ := Kd.at_int HR0.out a1 p138 q138
      cases e138
      replace p138 := eq_true p138
      replace q138 := eq_true q138
      go_enter Try.func25, Try.ntmps25
      go_wp2_with (first | (go_at_call 24; (with_reducible refine (class_Letter.calls (wrap32 (rd l0 a1)) t139 _ A5.out).mono ?_); rintro e w' ⟨rfl, ⟨nd, rfl⟩⟩))
      go_ret
      exact ⟨by first | rfl | (simp; done) | (simp [*]; done), by repeat (first | exact Drawn0.refl _ | apply Drawn0.step)⟩
    · rw [if_neg c4] at H
      exact absurd H (by simp)
  · rw [if_neg c3] at H
    have c3b0 : decide (a1 < (l0.length : Int)) = false := decide_eq_false c3
    clear c3
    obtain rfl := Option.some.inj H
    go_enter Try.func25, Try.ntmps25
    go_wp2
    go_ret
    exact ⟨by first | rfl | (simp; done) | (simp [*]; done), by repeat (first | exact Drawn0.refl _ | apply Drawn0.step)⟩

/-! ### tag_Begins: function 16 -/
def tag_Begins.j0 : Nat → List Int → Int → Bool → Option (Bool × Bool)
  | 0, _, _, _ => none
  | k + 1, x0, x1, x6 => if x6 = true then (some (false, false)) else ((tag_letter.f x0 (wrap64 (x1 + 1))).bind fun t141 => (if t141 = true then (some (true, false)) else (if (wrap64 (x1 + 1)) < (x0.length : Int) then (if 0 ≤ (wrap64 (x1 + 1)) then (if (rd x0 (wrap64 (x1 + 1))) = 47 then ((tag_letter.f x0 (wrap64 (x1 + 2))).bind fun t143 => (if t143 = true then (some (true, true)) else (some (false, false)))) else (some (false, false))) else (none)) else (some (false, false)))))
def tag_Begins.f (k : Nat) (l0 : List Int) (a1 : Int) : Option (Bool × Bool) := if a1 < 0 then (tag_Begins.j0 k l0 a1 true) else (if a1 ≥ (l0.length : Int) then (tag_Begins.j0 k l0 a1 true) else (if 0 ≤ a1 then (if a1 < (l0.length : Int) then (tag_Begins.j0 k l0 a1 ((rd l0 a1) != 60)) else (none)) else (none)))
theorem tag_Begins.mono_l : ∀ k, (∀ y0 y1 y2, LeO (tag_Begins.j0 k y0 y1 y2) (tag_Begins.j0 (k + 1) y0 y1 y2))
  | 0 => fun _ _ _ r h => by simp [tag_Begins.j0] at h
  | k + 1 => by
    have ih0 := tag_Begins.mono_l k
    · intro y0 y1 y2
      unfold tag_Begins.j0
      repeat' first
      | (with_reducible exact ih0 _ _ _)
      | (with_reducible exact LeO.refl _)
      | (with_reducible exact LeO.none _)
      | (with_reducible refine LeO.ite ?_ ?_)
      | (with_reducible refine LeO.bind ?_ (fun _ => ?_))
      | exact ih0 _ _ _
      | exact LeO.none _
      | refine LeO.ite ?_ ?_
      | refine LeO.bind ?_ (fun _ => ?_)
theorem tag_Begins.mono : ∀ a0 a1 k, LeO (tag_Begins.f k a0 a1) (tag_Begins.f (k + 1) a0 a1) := by
  intro a0 a1 k
  have ih0 := tag_Begins.mono_l k
  unfold tag_Begins.f
  repeat' first
      | (with_reducible exact ih0 _ _ _)
      | (with_reducible exact LeO.refl _)
      | (with_reducible exact LeO.none _)
      | (with_reducible refine LeO.ite ?_ ?_)
      | (with_reducible refine LeO.bind ?_ (fun _ => ?_))
      | exact ih0 _ _ _
      | exact LeO.none _
      | refine LeO.ite ?_ ?_
      | refine LeO.bind ?_ (fun _ => ?_)
set_option maxHeartbeats 8000000 in
set_option maxRecDepth 100000 in
theorem tag_Begins.calls (k : Nat) (A0 : Option Addr) (c0 : Nat) (l0 : List Int) (a1 : Int) (r1 : Bool) (r2 : Bool) (w : World) (hr0 : Kd.C (Kd.int .u8) w A0 l0.length l0) (hc0 : l0.length ≤ c0) (h : tag_Begins.f k l0 a1 = some (r1, r2)) :
    Calls Try.prog 16 #[.slice A0 l0.length c0, .int .i64 a1] w fun e w' => e = .returned (.tuple #[.bool r1, .bool r2]) ∧ Drawn0 w w' := by
  have HR0 := Aside0.mk hr0
  have HC0 := Aside0.mk hc0
  clear hr0 hc0
  have H : (if a1 < 0 then (tag_Begins.j0 k l0 a1 true) else (if a1 ≥ (l0.length : Int) then (tag_Begins.j0 k l0 a1 true) else (if 0 ≤ a1 then (if a1 < (l0.length : Int) then (tag_Begins.j0 k l0 a1 ((rd l0 a1) != 60)) else (none)) else (none)))) = some (r1, r2) := h
  clear h
  have HC3 := Aside0.mk H
  clear H
  go_enter Try.func16, Try.ntmps16
  go_upto_region 1 with (fail)
  go_cut [6] (fun v6 wc => ∃ (kq : Nat) (x6_2 : Bool), v6 = .bool x6_2 ∧ Aside0 (tag_Begins.j0 kq l0 a1 x6_2 = some (r1, r2)) ∧ Aside0 (kq ≤ k) ∧ Drawn0 w wc)
  case first =>
    have H := HC3.out
    clear HC3
    by_cases c4 : a1 < 0
    · rw [if_pos c4] at H
      have c4b0 : decide (a1 < 0) = true := decide_eq_true c4
      clear c4
      (first | rw [c4b0] | (simp only [i64_w, i32_w]; rw [c4b0]) | skip)
      have H' := Aside0.mk H
      clear H
      go_wp2
      go_meet
      case rel => exact ⟨_, (true), (by first | rfl | (simp; done) | (simp [*]; done)), H', ⟨by first | omega | exact Nat.le_refl _⟩, by repeat (first | exact Drawn0.refl _ | apply Drawn0.step)⟩
    · rw [if_neg c4] at H
      have c4b0 : decide (a1 < 0) = false := decide_eq_false c4
      clear c4
      (first | rw [c4b0] | (simp only [i64_w, i32_w]; rw [c4b0]) | skip)
      by_cases c5 : a1 ≥ (l0.length : Int)
      · rw [if_pos c5] at H
        have c5b0 : decide ((l0.length : Int) ≤ a1) = true := decide_eq_true c5
        clear c5
        have H' := Aside0.mk H
        clear H
        go_wp2
        go_meet
        case rel => exact ⟨_, (true), (by first | rfl | (simp; done) | (simp [*]; done)), H', ⟨by first | omega | exact Nat.le_refl _⟩, by repeat (first | exact Drawn0.refl _ | apply Drawn0.step)⟩
      · rw [if_neg c5] at H
        have c5b0 : decide ((l0.length : Int) ≤ a1) = false := decide_eq_false c5
        clear c5
        by_cases c6 : 0 ≤ a1
        · rw [if_pos c6] at H
          have c6b0 : decide (0 ≤ a1) = true := decide_eq_true c6
          clear c6
          by_cases c7 : a1 < (l0.length : Int)
          · rw [if_pos c7] at H
            have c7b0 : decide (a1 < (l0.length : Int)) = true := decide_eq_true c7
            clear c7
            have H' := Aside0.mk H
            clear H
            have p140 : 0 ≤ (a1 : Int) := of_decide_eq_true (by first | (with_reducible assumption) | assumption)
            have q140 : a1 < (l0.length : Int) := of_decide_eq_true (by first | (with_reducible assumption) | assumption)
            obtain ⟨ad140, e140, hx140_0⟩ := Kd.at_int HR0.out a1 p140 q140
            cases e140
            replace p140 := eq_true p140
            replace q140 := eq_true q140
            go_wp2
            go_meet
            case rel => exact ⟨_, (((rd l0 a1) != 60)), (by first | rfl | (simp; done) | (simp [*]; done)), H', ⟨by first | omega | exact Nat.le_refl _⟩, by repeat (first | exact Drawn0.refl _ | apply Drawn0.step)⟩
          · rw [if_neg c7] at H
            exact absurd H (by simp)
        · rw [if_neg c6] at H
          exact absurd H (by simp)
  case rest =>
    clear HC3
    try clear c1
    try clear p1
    try clear q1
    try clear hx1
    try clear p2
    try clear c4
    try clear c4b0
    try clear c5
    try clear c5b0
    try clear c6
    try clear c6b0
    try clear c7
    try clear c7b0
    try clear hx140_0
    try clear p140
    try clear q140
    obtain ⟨kq, x6_2, rfl, HA, HJ2, ⟨mc2, rfl⟩⟩ := hcut
    cases kq with
    | zero => exact absurd HA.out (by simp [tag_Begins.j0])
    | succ kj2 =>
      have H := HA.out
      clear HA
      simp only [tag_Begins.j0] at H
      by_cases c8 : x6_2 = true
      · subst c8
        have H1 : (some (false, false)) = some (r1, r2) := by rw [if_pos rfl] at H; exact H
        clear H
        have H := H1
        clear H1
        simp only [Option.some.injEq, Prod.mk.injEq] at H
        obtain ⟨rfl, rfl⟩ := H
        go_wp2
        go_ret2
        exact ⟨by first | rfl | (simp; done) | (simp [*]; done), by repeat (first | exact Drawn0.refl _ | apply Drawn0.step)⟩
      · replace c8 := Bool.eq_false_iff.mpr c8
        subst c8
        have H1 : ((tag_letter.f l0 (wrap64 (a1 + 1))).bind fun t141 => (if t141 = true then (some (true, false)) else (if (wrap64 (a1 + 1)) < (l0.length : Int) then (if 0 ≤ (wrap64 (a1 + 1)) then (if (rd l0 (wrap64 (a1 + 1))) = 47 then ((tag_letter.f l0 (wrap64 (a1 + 2))).bind fun t143 => (if t143 = true then (some (true, true)) else (some (false, false)))) else (some (false, false))) else (none)) else (some (false, false))))) = some (r1, r2) := by rw [if_neg (show ¬ (false = true) by decide)] at H; exact H
        clear H
        have H := H1
        clear H1
        replace H := Option.bind_eq_some_iff.mp H
        obtain ⟨t141, A90, H⟩ := H
        replace H : (if t141 = true then (some (true, false)) else (if (wrap64 (a1 + 1)) < (l0.length : Int) then (if 0 ≤ (wrap64 (a1 + 1)) then (if (rd l0 (wrap64 (a1 + 1))) = 47 then ((tag_letter.f l0 (wrap64 (a1 + 2))).bind fun t143 => (if t143 = true then (some (true, true)) else (some (false, false)))) else (some (false, false))) else (none)) else (some (false, false)))) = some (r1, r2) := H
        have A9 := Aside0.mk A90
        clear A90
        by_cases c10 : t141 = true
        · subst c10
          have H1 : (some (true, false)) = some (r1, r2) := by rw [if_pos rfl] at H; exact H
          clear H
          have H := H1
          clear H1
          simp only [Option.some.injEq, Prod.mk.injEq] at H
          obtain ⟨rfl, rfl⟩ := H
          go_wp2_with (first | ((with_reducible refine gate_callee (f := 25) rfl ?_); refine goesL_ (some 26) rfl rfl Try.func25 (by kernel_rfl) rfl #[.slice A0 l0.length c0, .int .i64 (wrap64 (a1 + 1))] rfl (by (try simp only [List.map_toArray, List.map_cons, List.map_nil]); first | done | rfl | (simp only [List.length_drop, List.length_take]; rfl)) ?_; (with_reducible refine (tag_letter.calls _ _ l0 (wrap64 (a1 + 1)) true _ ?side1 ?side2 A9.out).mono ?_); (case side1 => repeat (first | exact HR0.out | (with_reducible refine Kd.C_alloc ?_ _) | (with_reducible refine Kd.C_drewN ?_ _) | (with_reducible refine Kd.C_drew ?_))); (case side2 => exact HC0.out); rintro e w' ⟨rfl, ⟨nd, rfl⟩⟩; refine ⟨_, rfl, ?_⟩))
          go_ret2
          exact ⟨by first | rfl | (simp; done) | (simp [*]; done), by repeat (first | exact Drawn0.refl _ | apply Drawn0.step)⟩
        · replace c10 := Bool.eq_false_iff.mpr c10
          subst c10
          have H1 : (if (wrap64 (a1 + 1)) < (l0.length : Int) then (if 0 ≤ (wrap64 (a1 + 1)) then (if (rd l0 (wrap64 (a1 + 1))) = 47 then ((tag_letter.f l0 (wrap64 (a1 + 2))).bind fun t143 => (if t143 = true then (some (true, true)) else (some (false, false)))) else (some (false, false))) else (none)) else (some (false, false))) = some (r1, r2) := by rw [if_neg (show ¬ (false = true) by decide)] at H; exact H
          clear H
          have H := H1
          clear H1
          by_cases c11 : (wrap64 (a1 + 1)) < (l0.length : Int)
          · rw [if_pos c11] at H
            have c11b0 : decide ((wrap64 (a1 + 1)) < (l0.length : Int)) = true := decide_eq_true c11
            clear c11
            obtain ⟨ji12, hji12⟩ : ∃ j_ : Int, (wrap64 (a1 + 1)) = j_ := ⟨_, rfl⟩
            replace H : (if 0 ≤ (ji12) then (if (rd l0 (ji12)) = 47 then ((tag_letter.f l0 (wrap64 (a1 + 2))).bind fun t143 => (if t143 = true then (some (true, true)) else (some (false, false)))) else (some (false, false))) else (none)) = some (r1, r2) := by first | (rw [hji12] at H; exact H) | (simp only [hji12] at H ⊢; exact H)
            (try rw [hji12] at c11b0)
            (try rw [hji12] at A9)
            have hji12w : (IntKind.i64.wrap (a1 + 1)) = ji12 := (i64_w _).trans hji12
            by_cases c13 : 0 ≤ (ji12)
            · rw [if_pos c13] at H
              have c13b0 : decide (0 ≤ (ji12)) = true := decide_eq_true c13
              clear c13
              by_cases c14 : (rd l0 (ji12)) = 47
              · rw [if_pos c14] at H
                have c14b0 : ((rd l0 (ji12)) == 47) = true := beq_iff_eq.mpr c14
                have c14b1 : ((rd l0 (ji12)) != 47) = false := bne_eq_false_iff_eq.mpr c14
                clear c14
                replace H := Option.bind_eq_some_iff.mp H
                obtain ⟨t143, A150, H⟩ := H
                replace H : (if t143 = true then (some (true, true)) else (some (false, false))) = some (r1, r2) := H
                have A15 := Aside0.mk A150
                clear A150
                by_cases c16 : t143 = true
                · subst c16
                  have H1 : (some (true, true)) = some (r1, r2) := by rw [if_pos rfl] at H; exact H
                  clear H
                  have H := H1
                  clear H1
                  simp only [Option.some.injEq, Prod.mk.injEq] at H
                  obtain ⟨rfl, rfl⟩ := H
                  go_wp2_with (first | ((with_reducible refine gate_callee (f := 25) rfl ?_); refine goesL_ (some 26) rfl rfl Try.func25 (by kernel_rfl) rfl #[.slice A0 l0.length c0, .int .i64 ji12] rfl (by (try simp only [List.map_toArray, List.map_cons, List.map_nil]); first | done | (simp only [hji12]; rfl) | rfl | (simp only [List.length_drop, List.length_take]; rfl)) ?_; (with_reducible refine (tag_letter.calls _ _ l0 ji12 false _ ?side1 ?side2 A9.out).mono ?_); (case side1 => repeat (first | exact HR0.out | (with_reducible refine Kd.C_alloc ?_ _) | (with_reducible refine Kd.C_drewN ?_ _) | (with_reducible refine Kd.C_drew ?_))); (case side2 => exact HC0.out); rintro e w' ⟨rfl, ⟨nd, rfl⟩⟩; refine ⟨_, rfl, ?_⟩; have p142 : 0 ≤ ((ji12) : Int) := of_decide_eq_true (by first | (with_reducible assumption) | assumption); have q142 : (ji12) < (l0.length : Int) := of_decide_eq_true (by first | (with_reducible assumption) | assumption); obtain ⟨ad142, e142, hx142_0⟩ := Kd.at_int HR0.out (ji12) p142 q142; cases e142; replace p142 := eq_true p142; replace q142 := eq_true q142) | (go_at_call 25; (with_reducible refine (tag_letter.calls _ _ l0 (wrap64 (a1 + 2)) true _ ?side1 ?side2 A15.out).mono ?_); (case side1 => repeat (first | exact HR0.out | (with_reducible refine Kd.C_alloc ?_ _) | (with_reducible refine Kd.C_drewN ?_ _) | (with_reducible refine Kd.C_drew ?_))); (case side2 => exact HC0.out); rintro e w' ⟨rfl, ⟨nd, rfl⟩⟩))
                  go_ret2
                  exact ⟨by first | rfl | (simp; done) | (simp only [← hji12] <;> (first | rfl | simp)) | (simp [*]; done), by repeat (first | exact Drawn0.refl _ | apply Drawn0.step)⟩
                · replace c16 := Bool.eq_false_iff.mpr c16
                  subst c16
                  have H1 : (some (false, false)) = some (r1, r2) := by rw [if_neg (show ¬ (false = true) by decide)] at H; exact H
                  clear H
                  have H := H1
                  clear H1
                  simp only [Option.some.injEq, Prod.mk.injEq] at H
                  obtain ⟨rfl, rfl⟩ := H
                  go_wp2_with (first | ((with_reducible refine gate_callee (f := 25) rfl ?_); refine goesL_ (some 26) rfl rfl Try.func25 (by kernel_rfl) rfl #[.slice A0 l0.length c0, .int .i64 ji12] rfl (by (try simp only [List.map_toArray, List.map_cons, List.map_nil]); first | done | (simp only [hji12]; rfl) | rfl | (simp only [List.length_drop, List.length_take]; rfl)) ?_; (with_reducible refine (tag_letter.calls _ _ l0 ji12 false _ ?side1 ?side2 A9.out).mono ?_); (case side1 => repeat (first | exact HR0.out | (with_reducible refine Kd.C_alloc ?_ _) | (with_reducible refine Kd.C_drewN ?_ _) | (with_reducible refine Kd.C_drew ?_))); (case side2 => exact HC0.out); rintro e w' ⟨rfl, ⟨nd, rfl⟩⟩; refine ⟨_, rfl, ?_⟩; have p142 : 0 ≤ ((ji12) : Int) := of_decide_eq_true (by first | (with_reducible assumption) | assumption); have q142 : (ji12) < (l0.length : Int) := of_decide_eq_true (by first | (with_reducible assumption) | assumption); obtain ⟨ad142, e142, hx142_0⟩ := Kd.at_int HR0.out (ji12) p142 q142; cases e142; replace p142 := eq_true p142; replace q142 := eq_true q142) | (go_at_call 25; (with_reducible refine (tag_letter.calls _ _ l0 (wrap64 (a1 + 2)) false _ ?side1 ?side2 A15.out).mono ?_); (case side1 => repeat (first | exact HR0.out | (with_reducible refine Kd.C_alloc ?_ _) | (with_reducible refine Kd.C_drewN ?_ _) | (with_reducible refine Kd.C_drew ?_))); (case side2 => exact HC0.out); rintro e w' ⟨rfl, ⟨nd, rfl⟩⟩))
                  go_ret2
                  exact ⟨by first | rfl | (simp; done) | (simp only [← hji12] <;> (first | rfl | simp)) | (simp [*]; done), by repeat (first | exact Drawn0.refl _ | apply Drawn0.step)⟩
              · rw [if_neg c14] at H
                have c14b0 : ((rd l0 (ji12)) == 47) = false := beq_eq_false_iff_ne.mpr c14
                have c14b1 : ((rd l0 (ji12)) != 47) = true := bne_iff_ne.mpr c14
                simp only [Option.some.injEq, Prod.mk.injEq] at H
                obtain ⟨rfl, rfl⟩ := H
                go_wp2_with (first | ((with_reducible refine gate_callee (f := 25) rfl ?_); refine goesL_ (some 26) rfl rfl Try.func25 (by kernel_rfl) rfl #[.slice A0 l0.length c0, .int .i64 ji12] rfl (by (try simp only [List.map_toArray, List.map_cons, List.map_nil]); first | done | (simp only [hji12]; rfl) | rfl | (simp only [List.length_drop, List.length_take]; rfl)) ?_; (with_reducible refine (tag_letter.calls _ _ l0 ji12 false _ ?side1 ?side2 A9.out).mono ?_); (case side1 => repeat (first | exact HR0.out | (with_reducible refine Kd.C_alloc ?_ _) | (with_reducible refine Kd.C_drewN ?_ _) | (with_reducible refine Kd.C_drew ?_))); (case side2 => exact HC0.out); rintro e w' ⟨rfl, ⟨nd, rfl⟩⟩; refine ⟨_, rfl, ?_⟩; have p142 : 0 ≤ ((ji12) : Int) := of_decide_eq_true (by first | (with_reducible assumption) | assumption); have q142 : (ji12) < (l0.length : Int) := of_decide_eq_true (by first | (with_reducible assumption) | assumption); obtain ⟨ad142, e142, hx142_0⟩ := Kd.at_int HR0.out (ji12) p142 q142; cases e142; replace p142 := eq_true p142; replace q142 := eq_true q142))
                go_ret2
                exact ⟨by first | rfl | (simp; done) | (simp only [← hji12] <;> (first | rfl | simp)) | (simp [*]; done), by repeat (first | exact Drawn0.refl _ | apply Drawn0.step)⟩
            · rw [if_neg c13] at H
              exact absurd H (by simp)
          · rw [if_neg c11] at H
            have c11b0 : decide ((wrap64 (a1 + 1)) < (l0.length : Int)) = false := decide_eq_false c11
            clear c11
            simp only [Option.some.injEq, Prod.mk.injEq] at H
            obtain ⟨rfl, rfl⟩ := H
            go_wp2_with (first | ((with_reducible refine gate_callee (f := 25) rfl ?_); refine goesL_ (some 26) rfl rfl Try.func25 (by kernel_rfl) rfl #[.slice A0 l0.length c0, .int .i64 (wrap64 (a1 + 1))] rfl (by (try simp only [List.map_toArray, List.map_cons, List.map_nil]); first | done | rfl | (simp only [List.length_drop, List.length_take]; rfl)) ?_; (with_reducible refine (tag_letter.calls _ _ l0 (wrap64 (a1 + 1)) false _ ?side1 ?side2 A9.out).mono ?_); (case side1 => repeat (first | exact HR0.out | (with_reducible refine Kd.C_alloc ?_ _) | (with_reducible refine Kd.C_drewN ?_ _) | (with_reducible refine Kd.C_drew ?_))); (case side2 => exact HC0.out); rintro e w' ⟨rfl, ⟨nd, rfl⟩⟩; refine ⟨_, rfl, ?_⟩))
            go_ret2
            exact ⟨by first | rfl | (simp; done) | (simp [*]; done), by repeat (first | exact Drawn0.refl _ | apply Drawn0.step)⟩

end Go.Proofs.Ytdppomkilojmlaa.PMark
