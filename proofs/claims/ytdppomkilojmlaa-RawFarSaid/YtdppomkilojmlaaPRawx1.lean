-- Laid by a program of this session (tools/patch_print.py) out of the translation. Not trusted: Lean checks it.
import Derived.Test.YtdppomkilojmlaaPRawx0
namespace Go.Proofs.Ytdppomkilojmlaa.PRaw
open Go.RowKit Go.Proofs.YtdppomkilojmlaaW.PrintWords Go.Proofs.YtdppomkilojmlaaW.PrintLast Go.Proofs.YtdppomkilojmlaaW.PrintMore
attribute [local go_sem] max2_int min2_int max_two min_two max_three min_three max_four min_four   -- for this text's walks alone
set_option linter.unusedVariables false
set_option linter.unusedSimpArgs false

/-! ### raw_Kind: function 12 -/
mutual
def raw_Kind.j0 : Nat → ByteArray → Bool → Option (Int)
  | 0, _, _ => none
  | k + 1, x3, x4 => if x4 = true then (some 1) else (if x3.toList = ([105, 102, 114, 97, 109, 101] : List UInt8) then (raw_Kind.j1 k x3 (x3.toList == ([105, 102, 114, 97, 109, 101] : List UInt8))) else (if x3.toList = ([110, 111, 101, 109, 98, 101, 100] : List UInt8) then (raw_Kind.j1 k x3 (x3.toList == ([110, 111, 101, 109, 98, 101, 100] : List UInt8))) else (if x3.toList = ([110, 111, 102, 114, 97, 109, 101, 115] : List UInt8) then (raw_Kind.j1 k x3 (x3.toList == ([110, 111, 102, 114, 97, 109, 101, 115] : List UInt8))) else (if x3.toList = ([115, 99, 114, 105, 112, 116] : List UInt8) then (raw_Kind.j1 k x3 (x3.toList == ([115, 99, 114, 105, 112, 116] : List UInt8))) else (if x3.toList = ([115, 116, 121, 108, 101] : List UInt8) then (raw_Kind.j1 k x3 (x3.toList == ([115, 116, 121, 108, 101] : List UInt8))) else (raw_Kind.j1 k x3 (x3.toList == ([120, 109, 112] : List UInt8))))))))
def raw_Kind.j1 : Nat → ByteArray → Bool → Option (Int)
  | 0, _, _ => none
  | k + 1, x3, x7 => if x7 = true then (some 2) else (if x3.toList = ([112, 108, 97, 105, 110, 116, 101, 120, 116] : List UInt8) then (some 3) else (some 0))
end
def raw_Kind.f (k : Nat) (a0 : ByteArray) : Option (Int) := if a0.toList = ([116, 101, 120, 116, 97, 114, 101, 97] : List UInt8) then (raw_Kind.j0 k a0 (a0.toList == ([116, 101, 120, 116, 97, 114, 101, 97] : List UInt8))) else (raw_Kind.j0 k a0 (a0.toList == ([116, 105, 116, 108, 101] : List UInt8)))
theorem raw_Kind.mono_l : ∀ k, (∀ y0 y1, LeO (raw_Kind.j0 k y0 y1) (raw_Kind.j0 (k + 1) y0 y1)) ∧ (∀ y0 y1, LeO (raw_Kind.j1 k y0 y1) (raw_Kind.j1 (k + 1) y0 y1))
  | 0 => ⟨fun _ _ r h => by simp [raw_Kind.j0] at h, fun _ _ r h => by simp [raw_Kind.j1] at h⟩
  | k + 1 => by
    obtain ⟨ih0, ih1⟩ := raw_Kind.mono_l k
    refine ⟨?_, ?_⟩
    · intro y0 y1
      unfold raw_Kind.j0
      repeat' first
      | (with_reducible exact ih0 _ _)
      | (with_reducible exact ih1 _ _)
      | (with_reducible exact LeO.refl _)
      | (with_reducible exact LeO.none _)
      | (with_reducible refine LeO.ite ?_ ?_)
      | (with_reducible refine LeO.bind ?_ (fun _ => ?_))
      | exact ih0 _ _
      | exact ih1 _ _
      | exact LeO.none _
      | refine LeO.ite ?_ ?_
      | refine LeO.bind ?_ (fun _ => ?_)
    · intro y0 y1
      unfold raw_Kind.j1
      repeat' first
      | (with_reducible exact ih0 _ _)
      | (with_reducible exact ih1 _ _)
      | (with_reducible exact LeO.refl _)
      | (with_reducible exact LeO.none _)
      | (with_reducible refine LeO.ite ?_ ?_)
      | (with_reducible refine LeO.bind ?_ (fun _ => ?_))
      | exact ih0 _ _
      | exact ih1 _ _
      | exact LeO.none _
      | refine LeO.ite ?_ ?_
      | refine LeO.bind ?_ (fun _ => ?_)
theorem raw_Kind.mono : ∀ a0 k, LeO (raw_Kind.f k a0) (raw_Kind.f (k + 1) a0) := by
  intro a0 k
  obtain ⟨ih0, ih1⟩ := raw_Kind.mono_l k
  unfold raw_Kind.f
  repeat' first
      | (with_reducible exact ih0 _ _)
      | (with_reducible exact ih1 _ _)
      | (with_reducible exact LeO.refl _)
      | (with_reducible exact LeO.none _)
      | (with_reducible refine LeO.ite ?_ ?_)
      | (with_reducible refine LeO.bind ?_ (fun _ => ?_))
      | exact ih0 _ _
      | exact ih1 _ _
      | exact LeO.none _
      | refine LeO.ite ?_ ?_
      | refine LeO.bind ?_ (fun _ => ?_)
set_option maxHeartbeats 8000000 in
set_option maxRecDepth 100000 in
theorem raw_Kind.calls (k : Nat) (a0 : ByteArray) (r : Int) (w : World) (h : raw_Kind.f k a0 = some r) :
    Calls Try.prog 12 #[.string a0] w fun e w' => e = .returned (.int .i64 r) ∧ Drawn0 w w' := by
  have H : (if a0.toList = ([116, 101, 120, 116, 97, 114, 101, 97] : List UInt8) then (raw_Kind.j0 k a0 (a0.toList == ([116, 101, 120, 116, 97, 114, 101, 97] : List UInt8))) else (raw_Kind.j0 k a0 (a0.toList == ([116, 105, 116, 108, 101] : List UInt8)))) = some r := h
  clear h
  have HC2 := Aside0.mk H
  clear H
  go_enter Try.func12, Try.ntmps12
  go_upto_if 4 with (fail)
  go_cut [4] (fun v4 wc => ∃ (kq : Nat) (x4_1 : Bool), v4 = .bool x4_1 ∧ Aside0 (raw_Kind.j0 kq a0 x4_1 = some r) ∧ Aside0 (kq ≤ k) ∧ Drawn0 w wc)
  case first =>
    have H := HC2.out
    clear HC2
    by_cases c3 : a0.toList = ([116, 101, 120, 116, 97, 114, 101, 97] : List UInt8)
    · rw [if_pos c3] at H
      have c3b0 : (a0.toList == ([116, 101, 120, 116, 97, 114, 101, 97] : List UInt8)) = true := beq_iff_eq.mpr c3
      have c3b1 : (a0.toList != ([116, 101, 120, 116, 97, 114, 101, 97] : List UInt8)) = false := bne_eq_false_iff_eq.mpr c3
      clear c3
      (first | rw [c3b0] | (simp only [i64_w, i32_w]; rw [c3b0]) | skip)
      have H' := Aside0.mk H
      clear H
      go_wp2
      go_meet
      case rel => exact ⟨_, ((a0.toList == ([116, 101, 120, 116, 97, 114, 101, 97] : List UInt8))), (by first | rfl | (simp; done) | (simp [*]; done)), H', ⟨by first | omega | exact Nat.le_refl _⟩, by repeat (first | exact Drawn0.refl _ | apply Drawn0.step)⟩
    · rw [if_neg c3] at H
      have c3b0 : (a0.toList == ([116, 101, 120, 116, 97, 114, 101, 97] : List UInt8)) = false := beq_eq_false_iff_ne.mpr c3
      have c3b1 : (a0.toList != ([116, 101, 120, 116, 97, 114, 101, 97] : List UInt8)) = true := bne_iff_ne.mpr c3
      (first | rw [c3b0] | (simp only [i64_w, i32_w]; rw [c3b0]) | skip)
      have H' := Aside0.mk H
      clear H
      go_wp2
      go_meet
      case rel => exact ⟨_, ((a0.toList == ([116, 105, 116, 108, 101] : List UInt8))), (by first | rfl | (simp; done) | (simp [*]; done)), H', ⟨by first | omega | exact Nat.le_refl _⟩, by repeat (first | exact Drawn0.refl _ | apply Drawn0.step)⟩
  case rest =>
    clear HC2
    try clear c1
    try clear p2
    try clear c3
    try clear c3b0
    try clear c3b1
    obtain ⟨kq, x4_1, rfl, HA, HJ1, ⟨mc1, rfl⟩⟩ := hcut
    cases kq with
    | zero => exact absurd HA.out (by simp [raw_Kind.j0])
    | succ kj1 =>
      have H := HA.out
      clear HA
      simp only [raw_Kind.j0] at H
      by_cases c4 : x4_1 = true
      · subst c4
        have H1 : (some 1) = some r := by rw [if_pos rfl] at H; exact H
        clear H
        have H := H1
        clear H1
        obtain rfl := Option.some.inj H
        go_wp2
        go_ret
        exact ⟨by first | rfl | (simp; done) | (simp [*]; done), by repeat (first | exact Drawn0.refl _ | apply Drawn0.step)⟩
      · replace c4 := Bool.eq_false_iff.mpr c4
        subst c4
        have H1 : (if a0.toList = ([105, 102, 114, 97, 109, 101] : List UInt8) then (raw_Kind.j1 kj1 a0 (a0.toList == ([105, 102, 114, 97, 109, 101] : List UInt8))) else (if a0.toList = ([110, 111, 101, 109, 98, 101, 100] : List UInt8) then (raw_Kind.j1 kj1 a0 (a0.toList == ([110, 111, 101, 109, 98, 101, 100] : List UInt8))) else (if a0.toList = ([110, 111, 102, 114, 97, 109, 101, 115] : List UInt8) then (raw_Kind.j1 kj1 a0 (a0.toList == ([110, 111, 102, 114, 97, 109, 101, 115] : List UInt8))) else (if a0.toList = ([115, 99, 114, 105, 112, 116] : List UInt8) then (raw_Kind.j1 kj1 a0 (a0.toList == ([115, 99, 114, 105, 112, 116] : List UInt8))) else (if a0.toList = ([115, 116, 121, 108, 101] : List UInt8) then (raw_Kind.j1 kj1 a0 (a0.toList == ([115, 116, 121, 108, 101] : List UInt8))) else (raw_Kind.j1 kj1 a0 (a0.toList == ([120, 109, 112] : List UInt8)))))))) = some r := by rw [if_neg (show ¬ (false = true) by decide)] at H; exact H
        clear H
        have H := H1
        clear H1
        have HC5 := Aside0.mk H
        clear H
        go_upto_if 7 with (fail)
        go_cut [7] (fun v7 wc => ∃ (kq : Nat) (x7_4 : Bool), v7 = .bool x7_4 ∧ Aside0 (raw_Kind.j1 kq a0 x7_4 = some r) ∧ Aside0 (kq ≤ kj1) ∧ Drawn0 w wc)
        case first =>
          have H := HC5.out
          clear HC5
          by_cases c6 : a0.toList = ([105, 102, 114, 97, 109, 101] : List UInt8)
          · rw [if_pos c6] at H
            have c6b0 : (a0.toList == ([105, 102, 114, 97, 109, 101] : List UInt8)) = true := beq_iff_eq.mpr c6
            have c6b1 : (a0.toList != ([105, 102, 114, 97, 109, 101] : List UInt8)) = false := bne_eq_false_iff_eq.mpr c6
            clear c6
            (first | rw [c6b0] | (simp only [i64_w, i32_w]; rw [c6b0]) | skip)
            have H' := Aside0.mk H
            clear H
            go_wp2
            go_meet
            case rel => exact ⟨_, ((a0.toList == ([105, 102, 114, 97, 109, 101] : List UInt8))), (by first | rfl | (simp; done) | (simp [*]; done)), H', ⟨by have := HJ1.out; first | omega | exact Nat.le_refl _⟩, by repeat (first | exact Drawn0.refl _ | apply Drawn0.step)⟩
          · rw [if_neg c6] at H
            have c6b0 : (a0.toList == ([105, 102, 114, 97, 109, 101] : List UInt8)) = false := beq_eq_false_iff_ne.mpr c6
            have c6b1 : (a0.toList != ([105, 102, 114, 97, 109, 101] : List UInt8)) = true := bne_iff_ne.mpr c6
            (first | rw [c6b0] | (simp only [i64_w, i32_w]; rw [c6b0]) | skip)
            by_cases c7 : a0.toList = ([110, 111, 101, 109, 98, 101, 100] : List UInt8)
            · rw [if_pos c7] at H
              have c7b0 : (a0.toList == ([110, 111, 101, 109, 98, 101, 100] : List UInt8)) = true := beq_iff_eq.mpr c7
              have c7b1 : (a0.toList != ([110, 111, 101, 109, 98, 101, 100] : List UInt8)) = false := bne_eq_false_iff_eq.mpr c7
              clear c7
              have H' := Aside0.mk H
              clear H
              go_wp2
              go_meet
              case rel => exact ⟨_, ((a0.toList == ([110, 111, 101, 109, 98, 101, 100] : List UInt8))), (by first | rfl | (simp; done) | (simp [*]; done)), H', ⟨by have := HJ1.out; first | omega | exact Nat.le_refl _⟩, by repeat (first | exact Drawn0.refl _ | apply Drawn0.step)⟩
            · rw [if_neg c7] at H
              have c7b0 : (a0.toList == ([110, 111, 101, 109, 98, 101, 100] : List UInt8)) = false := beq_eq_false_iff_ne.mpr c7
              have c7b1 : (a0.toList != ([110, 111, 101, 109, 98, 101, 100] : List UInt8)) = true := bne_iff_ne.mpr c7
              by_cases c8 : a0.toList = ([110, 111, 102, 114, 97, 109, 101, 115] : List UInt8)
              · rw [if_pos c8] at H
                have c8b0 : (a0.toList == ([110, 111, 102, 114, 97, 109, 101, 115] : List UInt8)) = true := beq_iff_eq.mpr c8
                have c8b1 : (a0.toList != ([110, 111, 102, 114, 97, 109, 101, 115] : List UInt8)) = false := bne_eq_false_iff_eq.mpr c8
                clear c8
                have H' := Aside0.mk H
                clear H
                go_wp2
                go_meet
                case rel => exact ⟨_, ((a0.toList == ([110, 111, 102, 114, 97, 109, 101, 115] : List UInt8))), (by first | rfl | (simp; done) | (simp [*]; done)), H', ⟨by have := HJ1.out; first | omega | exact Nat.le_refl _⟩, by repeat (first | exact Drawn0.refl _ | apply Drawn0.step)⟩
              · rw [if_neg c8] at H
                have c8b0 : (a0.toList == ([110, 111, 102, 114, 97, 109, 101, 115] : List UInt8)) = false := beq_eq_false_iff_ne.mpr c8
                have c8b1 : (a0.toList != ([110, 111, 102, 114, 97, 109, 101, 115] : List UInt8)) = true := bne_iff_ne.mpr c8
                by_cases c9 : a0.toList = ([115, 99, 114, 105, 112, 116] : List UInt8)
                · rw [if_pos c9] at H
                  have c9b0 : (a0.toList == ([115, 99, 114, 105, 112, 116] : List UInt8)) = true := beq_iff_eq.mpr c9
                  have c9b1 : (a0.toList != ([115, 99, 114, 105, 112, 116] : List UInt8)) = false := bne_eq_false_iff_eq.mpr c9
                  clear c9
                  have H' := Aside0.mk H
                  clear H
                  go_wp2
                  go_meet
                  case rel => exact ⟨_, ((a0.toList == ([115, 99, 114, 105, 112, 116] : List UInt8))), (by first | rfl | (simp; done) | (simp [*]; done)), H', ⟨by have := HJ1.out; first | omega | exact Nat.le_refl _⟩, by repeat (first | exact Drawn0.refl _ | apply Drawn0.step)⟩
                · rw [if_neg c9] at H
                  have c9b0 : (a0.toList == ([115, 99, 114, 105, 112, 116] : List UInt8)) = false := beq_eq_false_iff_ne.mpr c9
                  have c9b1 : (a0.toList != ([115, 99, 114, 105, 112, 116] : List UInt8)) = true := bne_iff_ne.mpr c9
                  by_cases c10 : a0.toList = ([115, 116, 121, 108, 101] : List UInt8)
                  · rw [if_pos c10] at H
                    have c10b0 : (a0.toList == ([115, 116, 121, 108, 101] : List UInt8)) = true := beq_iff_eq.mpr c10
                    have c10b1 : (a0.toList != ([115, 116, 121, 108, 101] : List UInt8)) = false := bne_eq_false_iff_eq.mpr c10
                    clear c10
                    have H' := Aside0.mk H
                    clear H
                    go_wp2
                    go_meet
                    case rel => exact ⟨_, ((a0.toList == ([115, 116, 121, 108, 101] : List UInt8))), (by first | rfl | (simp; done) | (simp [*]; done)), H', ⟨by have := HJ1.out; first | omega | exact Nat.le_refl _⟩, by repeat (first | exact Drawn0.refl _ | apply Drawn0.step)⟩
                  · rw [if_neg c10] at H
                    have c10b0 : (a0.toList == ([115, 116, 121, 108, 101] : List UInt8)) = false := beq_eq_false_iff_ne.mpr c10
                    have c10b1 : (a0.toList != ([115, 116, 121, 108, 101] : List UInt8)) = true := bne_iff_ne.mpr c10
                    have H' := Aside0.mk H
                    clear H
                    go_wp2
                    go_meet
                    case rel => exact ⟨_, ((a0.toList == ([120, 109, 112] : List UInt8))), (by first | rfl | (simp; done) | (simp [*]; done)), H', ⟨by have := HJ1.out; first | omega | exact Nat.le_refl _⟩, by repeat (first | exact Drawn0.refl _ | apply Drawn0.step)⟩
        case rest =>
          clear HC5
          try clear c1
          try clear p2
          try clear c3
          try clear c3b0
          try clear c3b1
          try clear c4
          try clear c6
          try clear c6b0
          try clear c6b1
          try clear c7
          try clear c7b0
          try clear c7b1
          try clear c8
          try clear c8b0
          try clear c8b1
          try clear c9
          try clear c9b0
          try clear c9b1
          try clear c10
          try clear c10b0
          try clear c10b1
          try clear p2
          obtain ⟨kq, x7_4, rfl, HA, HJ4, ⟨mc4, rfl⟩⟩ := hcut
          cases kq with
          | zero => exact absurd HA.out (by simp [raw_Kind.j1])
          | succ kj4 =>
            have H := HA.out
            clear HA
            simp only [raw_Kind.j1] at H
            by_cases c11 : x7_4 = true
            · subst c11
              have H1 : (some 2) = some r := by rw [if_pos rfl] at H; exact H
              clear H
              have H := H1
              clear H1
              obtain rfl := Option.some.inj H
              go_wp2
              go_ret
              exact ⟨by first | rfl | (simp; done) | (simp [*]; done), by repeat (first | exact Drawn0.refl _ | apply Drawn0.step)⟩
            · replace c11 := Bool.eq_false_iff.mpr c11
              subst c11
              have H1 : (if a0.toList = ([112, 108, 97, 105, 110, 116, 101, 120, 116] : List UInt8) then (some 3) else (some 0)) = some r := by rw [if_neg (show ¬ (false = true) by decide)] at H; exact H
              clear H
              have H := H1
              clear H1
              by_cases c12 : a0.toList = ([112, 108, 97, 105, 110, 116, 101, 120, 116] : List UInt8)
              · rw [if_pos c12] at H
                have c12b0 : (a0.toList == ([112, 108, 97, 105, 110, 116, 101, 120, 116] : List UInt8)) = true := beq_iff_eq.mpr c12
                have c12b1 : (a0.toList != ([112, 108, 97, 105, 110, 116, 101, 120, 116] : List UInt8)) = false := bne_eq_false_iff_eq.mpr c12
                clear c12
                obtain rfl := Option.some.inj H
                go_wp2
                go_ret
                exact ⟨by first | rfl | (simp; done) | (simp [*]; done), by repeat (first | exact Drawn0.refl _ | apply Drawn0.step)⟩
              · rw [if_neg c12] at H
                have c12b0 : (a0.toList == ([112, 108, 97, 105, 110, 116, 101, 120, 116] : List UInt8)) = false := beq_eq_false_iff_ne.mpr c12
                have c12b1 : (a0.toList != ([112, 108, 97, 105, 110, 116, 101, 120, 116] : List UInt8)) = true := bne_iff_ne.mpr c12
                obtain rfl := Option.some.inj H
                go_wp2
                go_ret
                exact ⟨by first | rfl | (simp; done) | (simp [*]; done), by repeat (first | exact Drawn0.refl _ | apply Drawn0.step)⟩

-- NOT PRINTED: function 26 (bytealg_IndexByte)

/-! ### bytes_IndexByte: function 17 -/
def bytes_IndexByte.f (l0 : List Int) (a1 : Int) : Option Int := some (Lib.indexByte (Lib.bytesOf l0) a1.toNat.toUInt8)
set_option maxRecDepth 100000 in
set_option maxHeartbeats 4000000 in
theorem bytes_IndexByte.calls (A0 : Option Addr) (c0 : Nat) (l0 : List Int) (a1 : Int) (r : Int) (w : World) (hr0 : Kd.C (Kd.int .u8) w A0 l0.length l0) (hc0 : l0.length ≤ c0) (h : bytes_IndexByte.f l0 a1 = some r) :
    Calls Try.prog 17 #[.slice A0 l0.length c0, .int .u8 a1] w fun e w' => e = .returned (.int .i64 r) ∧ Below w.heap.size w w' := by
  obtain rfl := Option.some.inj h
  have hrun : (callFunc 26 #[.slice A0 l0.length c0, .int .u8 a1]).run Try.prog w = .ok (.value (.int .i64 (Lib.indexByte (Lib.bytesOf l0) a1.toNat.toUInt8))) w := by
    rw [run_callFunc_extern Try.func26 (by kernel_rfl) (by kernel_rfl) (by kernel_rfl) (e := Extern.BytealgIndexByte.indexByte) (by kernel_rfl)]
    cases A0 with
    | none =>
      have h0 : l0 = [] := by
        cases l0 with
        | nil => rfl
        | cons x xs =>
          obtain ⟨ad, hd, _⟩ := Kd.at_int hr0 0 (by omega) (by rw [List.length_cons]; omega)
          cases hd
      subst h0
      have := Lib.run_indexByteNil (P := Try.prog) w 0 c0 a1
      simp only [List.length_nil]
      rw [this]
      rfl
    | some a =>
      rw [Lib.run_indexByteAt w a l0.length c0 l0 rfl (fun i hi => ?_) a1]
      · rfl
      · obtain ⟨ad, hd, hc⟩ := Kd.at_int hr0 (i : Int) (by omega) (by omega)
        cases hd
        rw [show ((i : Int)).toNat = i from rfl] at hc
        exact hc
  go_enter Try.func17, Try.ntmps17
  go_wp2
  go_ret
  exact ⟨rfl, Below.refl _ _⟩

/-! ### class_within: function 32 -/
def class_within.f (a0 : Int) (a1 : Int) (a2 : Int) : Option (Bool) := if a0 ≥ a1 then (some (decide (a0 ≤ a2))) else (some false)
set_option maxHeartbeats 8000000 in
set_option maxRecDepth 100000 in
theorem class_within.calls (a0 : Int) (a1 : Int) (a2 : Int) (r : Bool) (w : World) (h : class_within.f a0 a1 a2 = some r) :
    Calls Try.prog 32 #[.int .i32 a0, .int .i32 a1, .int .i32 a2] w fun e w' => e = .returned (.bool r) ∧ Drawn0 w w' := by
  have H : (if a0 ≥ a1 then (some (decide (a0 ≤ a2))) else (some false)) = some r := h
  clear h
  by_cases c4 : a0 ≥ a1
  · rw [if_pos c4] at H
    have c4b0 : decide (a1 ≤ a0) = true := decide_eq_true c4
    clear c4
    obtain rfl := Option.some.inj H
    go_enter Try.func32, Try.ntmps32
    go_wp2
    go_ret
    exact ⟨by first | rfl | (simp; done) | (simp [*]; done), by repeat (first | exact Drawn0.refl _ | apply Drawn0.step)⟩
  · rw [if_neg c4] at H
    have c4b0 : decide (a1 ≤ a0) = false := decide_eq_false c4
    clear c4
    obtain rfl := Option.some.inj H
    go_enter Try.func32, Try.ntmps32
    go_wp2
    go_ret
    exact ⟨by first | rfl | (simp; done) | (simp [*]; done), by repeat (first | exact Drawn0.refl _ | apply Drawn0.step)⟩

/-! ### class_Lower: function 31 -/
def class_Lower.f (a0 : Int) : Option (Int) := (class_within.f a0 65 90).bind fun t101 => (if t101 = true then (some (wrap32 (a0 + 32))) else (some a0))
set_option maxHeartbeats 8000000 in
set_option maxRecDepth 100000 in
theorem class_Lower.calls (a0 : Int) (r : Int) (w : World) (h : class_Lower.f a0 = some r) :
    Calls Try.prog 31 #[.int .i32 a0] w fun e w' => e = .returned (.int .i32 r) ∧ Drawn0 w w' := by
  have H : ((class_within.f a0 65 90).bind fun t101 => (if t101 = true then (some (wrap32 (a0 + 32))) else (some a0))) = some r := h
  clear h
  replace H := Option.bind_eq_some_iff.mp H
  obtain ⟨t101, A20, H⟩ := H
  replace H : (if t101 = true then (some (wrap32 (a0 + 32))) else (some a0)) = some r := H
  have A2 := Aside0.mk A20
  clear A20
  by_cases c3 : t101 = true
  · subst c3
    have H1 : (some (wrap32 (a0 + 32))) = some r := by rw [if_pos rfl] at H; exact H
    clear H
    have H := H1
    clear H1
    obtain rfl := Option.some.inj H
    go_enter Try.func31, Try.ntmps31
    go_wp2_with (first | ((with_reducible refine gate_callee (f := 32) rfl ?_); refine goesL_ (some 4) rfl rfl Try.func32 (by kernel_rfl) rfl #[.int .i32 a0, .int .i32 65, .int .i32 90] rfl (by (try simp only [List.map_toArray, List.map_cons, List.map_nil]); first | done | rfl | (simp only [List.length_drop, List.length_take]; rfl)) ?_; (with_reducible refine (class_within.calls a0 65 90 true _ A2.out).mono ?_); rintro e w' ⟨rfl, ⟨nd, rfl⟩⟩; refine ⟨_, rfl, ?_⟩))
    go_ret
    exact ⟨by first | rfl | (simp; done) | (simp [*]; done), by repeat (first | exact Drawn0.refl _ | apply Drawn0.step)⟩
  · replace c3 := Bool.eq_false_iff.mpr c3
    subst c3
    have H1 : (some a0) = some r := by rw [if_neg (show ¬ (false = true) by decide)] at H; exact H
    clear H
    have H := H1
    clear H1
    obtain rfl := Option.some.inj H
    go_enter Try.func31, Try.ntmps31
    go_wp2_with (first | ((with_reducible refine gate_callee (f := 32) rfl ?_); refine goesL_ (some 4) rfl rfl Try.func32 (by kernel_rfl) rfl #[.int .i32 a0, .int .i32 65, .int .i32 90] rfl (by (try simp only [List.map_toArray, List.map_cons, List.map_nil]); first | done | rfl | (simp only [List.length_drop, List.length_take]; rfl)) ?_; (with_reducible refine (class_within.calls a0 65 90 false _ A2.out).mono ?_); rintro e w' ⟨rfl, ⟨nd, rfl⟩⟩; refine ⟨_, rfl, ?_⟩))
    go_ret
    exact ⟨by first | rfl | (simp; done) | (simp [*]; done), by repeat (first | exact Drawn0.refl _ | apply Drawn0.step)⟩

/-! ### class_Small: function 23 -/
def class_Small.lowB (b : UInt8) : UInt8 := if 65 ≤ b.toNat ∧ b.toNat ≤ 90 then b + 32 else b
def class_Small.lowI (c : Int) : Int := if 65 ≤ c ∧ c ≤ 90 then c + 32 else c
def class_Small.smallBytes (s : ByteArray) : ByteArray := ⟨(s.data.toList.map class_Small.lowB).toArray⟩
theorem class_Small.lowI_lowB (b : UInt8) : class_Small.lowI (b.toNat : Int) = ((class_Small.lowB b).toNat : Int) := by
  have := b.toNat_lt
  unfold class_Small.lowI class_Small.lowB
  by_cases h : 65 ≤ b.toNat ∧ b.toNat ≤ 90
  · rw [if_pos (by omega), if_pos h, UInt8.toNat_add]
    have e : (32 : UInt8).toNat = 32 := rfl
    rw [e]
    omega
  · rw [if_neg (by omega), if_neg h]
theorem class_Small.lower_any (c : Int) (w : World) (h0 : 0 ≤ c) (h1 : c ≤ 255) : Calls Try.prog 31 #[.int .i32 c] w fun e w' => e = .returned (.int .i32 (class_Small.lowI c)) ∧ w = w' := by
  rcases (show c < 65 ∨ (65 ≤ c ∧ c ≤ 90) ∨ 90 < c by omega) with h | ⟨h, h'⟩ | h
  · go_enter Try.func31, Try.ntmps31
    go_wp2
    go_ret
    exact ⟨by unfold class_Small.lowI; rw [if_neg (by omega)]; rfl, rfl⟩
  · go_enter Try.func31, Try.ntmps31
    go_wp2
    go_ret
    exact ⟨by unfold class_Small.lowI; rw [if_pos ⟨h, h'⟩]; rfl, rfl⟩
  · go_enter Try.func31, Try.ntmps31
    go_wp2
    go_ret
    exact ⟨by unfold class_Small.lowI; rw [if_neg (by omega)]; rfl, rfl⟩
/-- Which byte stands at place j, k of them made small. -/
def class_Small.smAt (s : ByteArray) (k j : Nat) : Int := if j < k then class_Small.lowI ((s.data.toList.getD j 0).toNat : Int) else ((s.data.toList.getD j 0).toNat : Int)
theorem class_Small.row_at (s : ByteArray) (c j : Nat) (hj : j < s.size) : (bytesRow s c)[j]? = some (.int .u8 ((s.data.toList.getD j 0).toNat : Int)) := by
  have hl : j < s.data.size := hj
  have e : (s.data.toList.getD j 0) = s.data[j] := by
    rw [List.getD_eq_getElem?_getD, List.getElem?_eq_getElem (by simpa using hl)]
    simp
  rw [e]
  unfold bytesRow
  rw [Array.getElem?_append_left (by simpa using hl), Array.getElem?_map, Array.getElem?_eq_getElem hl]
  rfl
theorem class_Small.row_size (s : ByteArray) (c : Nat) : s.size ≤ (bytesRow s c).size := by
  unfold bytesRow
  rw [Array.size_append, Array.size_map]
  have e : s.data.size = s.size := rfl
  omega
set_option maxRecDepth 100000 in
set_option maxHeartbeats 4000000 in
theorem class_Small.small_any (s : ByteArray) (w : World) (h : s.size ≤ 140737488351232) : Calls Try.prog 23 #[.string s] w fun e w' => e = .returned (.string (class_Small.smallBytes s)) ∧ Below w.heap.size w w' := by
  have hconv := fun W : World => run_bytes_of_string (P := Try.prog) W 9 22 5 s Try.underlying9 Try.underlying22 Try.underlying5
  go_enter Try.func23, Try.ntmps23
  go_wp2
  clear hconv
  generalize hc : grownCap w s.size 0 5 = c
  have hrow : ∀ W : World, W = (w.alloc (.cells (bytesRow s c) 5 ((bytesRow s c).size, (bytesRow s c).size + 1))).drew → Below w.heap.size w W ∧ w.heap.size < W.heap.size ∧ ∀ j, j < s.size → W.cell? ⟨w.heap.size, j, none⟩ = some (.int .u8 (class_Small.smAt s 0 j)) ∧ W.frozen? ⟨w.heap.size, j, none⟩ = false := by
    rintro W rfl
    refine ⟨Below.drew ((Below.refl _ _).alloc (Nat.le_refl _) _), by rw [World.size_drew, World.size_alloc]; omega, fun j hj => ⟨?_, ?_⟩⟩
    · rw [World.cell?_drew, World.cell?_alloc_mark, class_Small.row_at s c j hj]
      unfold class_Small.smAt
      rw [if_neg (by omega)]
    · rw [World.frozen?_drew, World.frozen?_alloc_mark]
      have := class_Small.row_size s c
      rw [decide_eq_false (by omega)]
      rfl
  obtain ⟨W0, hW0⟩ : ∃ W0, W0 = (w.alloc (.cells (bytesRow s c) 5 ((bytesRow s c).size, (bytesRow s c).size + 1))).drew := ⟨_, rfl⟩
  obtain ⟨hb, hz, hcell⟩ := hrow W0 hW0
  rw [← hW0]
  clear hW0 hrow hc
  have hcell' := Lib.hid hcell
  clear hcell
  go_loopg [10] s.size (fun gg s10 wr => ∃ k : Nat, k ≤ s.size ∧ s.size - k ≤ gg ∧ s10 = .int .i64 k ∧ Hid (Below w.heap.size w wr) ∧ Hid (∀ j, j < s.size → wr.cell? ⟨w.heap.size, j, none⟩ = some (.int .u8 (class_Small.smAt s k j)) ∧ wr.frozen? ⟨w.heap.size, j, none⟩ = false))
  case atStart => exact ⟨0, by omega, by omega, rfl, hb, hcell'⟩
  case round =>
    clear hcell' hb hz
    obtain ⟨k, hk, hgg, rfl, HB, HC⟩ := hrel
    by_cases hlt : k < s.size
    · obtain ⟨hx, hf⟩ := HC.out k hlt
      have hx0 : class_Small.smAt s k k = ((s.data.toList.getD k 0).toNat : Int) := by unfold class_Small.smAt; rw [if_neg (by omega)]
      rw [hx0] at hx
      clear hx0
      obtain ⟨b, hb⟩ : ∃ b : UInt8, b = s.data.toList.getD k 0 := ⟨_, rfl⟩
      rw [← hb] at hx
      have Hb := Lib.hid hb
      clear hb
      have hb1 : (b.toNat : Int) ≤ 255 := by have := b.toNat_lt; omega
      have hb0 : 0 ≤ (b.toNat : Int) := by omega
      have hl0 : 0 ≤ class_Small.lowI (b.toNat : Int) := by unfold class_Small.lowI; split <;> omega
      have hl1 : class_Small.lowI (b.toNat : Int) ≤ 255 := by unfold class_Small.lowI; split <;> omega
      go_wp2_with (go_at_call 31; refine (class_Small.lower_any _ _ (by omega) (by omega)).mono ?_; rintro e w' ⟨rfl, rfl⟩)
      go_roundg (s.size - (k + 1))
      case measure => omega
      case rel =>
        refine ⟨k + 1, by omega, by omega, by go_num, HB.out.setCell (Nat.le_refl _) _, fun j hj => ?_⟩
        obtain ⟨hy, hfy⟩ := HC.out j hj
        refine ⟨?_, by rw [World.frozen?_setCell]; exact hfy⟩
        by_cases e : j = k
        · subst e
          rw [World.cell?_setCell_same _ _ _ hx]
          unfold class_Small.smAt
          rw [if_pos (by omega), ← Hb.out]
        · rw [World.cell?_setCell_other _ _ _ _ (by intro hh; injection hh with _ hh; exact e hh.symm), hy]
          unfold class_Small.smAt
          by_cases h2 : j < k
          · rw [if_pos h2, if_pos (by omega)]
          · rw [if_neg h2, if_neg (by omega)]
    · have hk' : k = s.size := by omega
      subst hk'
      have hback : (convert 22 9 (.slice (some ⟨w.heap.size, 0, none⟩) (s.data.toList.map class_Small.lowB).length c)).run Try.prog wr = .ok (.string ⟨(s.data.toList.map class_Small.lowB).toArray⟩) wr := by
        refine run_convert_bytes_back wr 22 9 5 _ c _ Try.underlying22 Try.underlying5 Try.underlying9 (fun j hj => ?_)
        have hj' : j < s.size := by simpa using hj
        have hx := (HC.out j hj').1
        unfold class_Small.smAt at hx
        rw [if_pos hj'] at hx
        rw [add_plain, hx, List.getElem_map, ← class_Small.lowI_lowB]
        rw [List.getD_eq_getElem?_getD, List.getElem?_eq_getElem (by simpa using hj)]
        rfl
      have hlen : (s.data.toList.map class_Small.lowB).length = s.size := by simp
      rw [hlen] at hback
      clear hlen
      go_wp2
      go_ret
      exact ⟨rfl, HB.out⟩
def class_Small.f (a0 : ByteArray) : Option ByteArray := if a0.size ≤ 140737488351232 then some (class_Small.smallBytes a0) else none
theorem class_Small.calls (a0 : ByteArray) (r : ByteArray) (w : World) (h : class_Small.f a0 = some r) :
    Calls Try.prog 23 #[.string a0] w fun e w' => e = .returned (.string r) ∧ Below w.heap.size w w' := by
  unfold class_Small.f at h
  by_cases h0 : a0.size ≤ 140737488351232
  · rw [if_pos h0] at h
    obtain rfl := Option.some.inj h
    exact class_Small.small_any a0 w h0
  · rw [if_neg h0] at h
    cases h

-- NOT PRINTED: function 38 (bytealg_IndexString)

/-! ### bytealg_Cutover: function 39 -/
def bytealg_Cutover.f (a0 : Int) : Option (Int) := some (wrap64 (Int.tdiv (wrap64 (a0 + 16)) 8))
set_option maxHeartbeats 8000000 in
set_option maxRecDepth 100000 in
theorem bytealg_Cutover.calls (a0 : Int) (r : Int) (w : World) (h : bytealg_Cutover.f a0 = some r) :
    Calls Try.prog 39 #[.int .i64 a0] w fun e w' => e = .returned (.int .i64 r) ∧ Drawn0 w w' := by
  have H : (some (wrap64 (Int.tdiv (wrap64 (a0 + 16)) 8))) = some r := h
  clear h
  obtain rfl := Option.some.inj H
  go_enter Try.func39, Try.ntmps39
  go_wp2
  go_ret
  exact ⟨by first | rfl | (simp; done) | (simp [*]; done), by repeat (first | exact Drawn0.refl _ | apply Drawn0.step)⟩

-- NOT PRINTED: function 43 (bytealg_IndexByteString)

-- NOT PRINTED: function 37 (stringslite_IndexByte)

-- NOT PRINTED: function 41 (strings_IndexByte)

/-! ### utf8_ValidRune: function 42 -/
def utf8_ValidRune.j0 : Nat → Int → Bool → Option (Bool)
  | 0, _, _ => none
  | k + 1, x0, x3 => if x3 = true then (some true) else (if 57343 < x0 then (if x0 ≤ 1114111 then (some true) else (some false)) else (some false))
def utf8_ValidRune.f (k : Nat) (a0 : Int) : Option (Bool) := if 0 ≤ a0 then (utf8_ValidRune.j0 k a0 (decide (a0 < 55296))) else (utf8_ValidRune.j0 k a0 false)
theorem utf8_ValidRune.mono_l : ∀ k, (∀ y0 y1, LeO (utf8_ValidRune.j0 k y0 y1) (utf8_ValidRune.j0 (k + 1) y0 y1))
  | 0 => fun _ _ r h => by simp [utf8_ValidRune.j0] at h
  | k + 1 => by
    have ih0 := utf8_ValidRune.mono_l k
    · intro y0 y1
      unfold utf8_ValidRune.j0
      repeat' first
      | (with_reducible exact ih0 _ _)
      | (with_reducible exact LeO.refl _)
      | (with_reducible exact LeO.none _)
      | (with_reducible refine LeO.ite ?_ ?_)
      | (with_reducible refine LeO.bind ?_ (fun _ => ?_))
      | exact ih0 _ _
      | exact LeO.none _
      | refine LeO.ite ?_ ?_
      | refine LeO.bind ?_ (fun _ => ?_)
theorem utf8_ValidRune.mono : ∀ a0 k, LeO (utf8_ValidRune.f k a0) (utf8_ValidRune.f (k + 1) a0) := by
  intro a0 k
  have ih0 := utf8_ValidRune.mono_l k
  unfold utf8_ValidRune.f
  repeat' first
      | (with_reducible exact ih0 _ _)
      | (with_reducible exact LeO.refl _)
      | (with_reducible exact LeO.none _)
      | (with_reducible refine LeO.ite ?_ ?_)
      | (with_reducible refine LeO.bind ?_ (fun _ => ?_))
      | exact ih0 _ _
      | exact LeO.none _
      | refine LeO.ite ?_ ?_
      | refine LeO.bind ?_ (fun _ => ?_)
set_option maxHeartbeats 8000000 in
set_option maxRecDepth 100000 in
theorem utf8_ValidRune.calls (k : Nat) (a0 : Int) (r : Bool) (w : World) (h : utf8_ValidRune.f k a0 = some r) :
    Calls Try.prog 42 #[.int .i32 a0] w fun e w' => e = .returned (.bool r) ∧ Drawn0 w w' := by
  have H : (if 0 ≤ a0 then (utf8_ValidRune.j0 k a0 (decide (a0 < 55296))) else (utf8_ValidRune.j0 k a0 false)) = some r := h
  clear h
  have HC2 := Aside0.mk H
  clear H
  go_enter Try.func42, Try.ntmps42
  go_upto_region 1 with (fail)
  go_cut [3] (fun v3 wc => ∃ (kq : Nat) (x3_1 : Bool), v3 = .bool x3_1 ∧ Aside0 (utf8_ValidRune.j0 kq a0 x3_1 = some r) ∧ Aside0 (kq ≤ k) ∧ Drawn0 w wc)
  case first =>
    have H := HC2.out
    clear HC2
    by_cases c3 : 0 ≤ a0
    · rw [if_pos c3] at H
      have c3b0 : decide (0 ≤ a0) = true := decide_eq_true c3
      clear c3
      (first | rw [c3b0] | (simp only [i64_w, i32_w]; rw [c3b0]) | skip)
      have H' := Aside0.mk H
      clear H
      go_wp2
      go_meet
      case rel => exact ⟨_, (decide (a0 < 55296)), (by first | rfl | (simp; done) | (simp [*]; done)), H', ⟨by first | omega | exact Nat.le_refl _⟩, by repeat (first | exact Drawn0.refl _ | apply Drawn0.step)⟩
    · rw [if_neg c3] at H
      have c3b0 : decide (0 ≤ a0) = false := decide_eq_false c3
      clear c3
      (first | rw [c3b0] | (simp only [i64_w, i32_w]; rw [c3b0]) | skip)
      have H' := Aside0.mk H
      clear H
      go_wp2
      go_meet
      case rel => exact ⟨_, (false), (by first | rfl | (simp; done) | (simp [*]; done)), H', ⟨by first | omega | exact Nat.le_refl _⟩, by repeat (first | exact Drawn0.refl _ | apply Drawn0.step)⟩
  case rest =>
    clear HC2
    try clear p2
    try clear c3
    try clear c3b0
    obtain ⟨kq, x3_1, rfl, HA, HJ1, ⟨mc1, rfl⟩⟩ := hcut
    cases kq with
    | zero => exact absurd HA.out (by simp [utf8_ValidRune.j0])
    | succ kj1 =>
      have H := HA.out
      clear HA
      simp only [utf8_ValidRune.j0] at H
      by_cases c4 : x3_1 = true
      · subst c4
        have H1 : (some true) = some r := by rw [if_pos rfl] at H; exact H
        clear H
        have H := H1
        clear H1
        obtain rfl := Option.some.inj H
        go_wp2
        go_ret
        exact ⟨by first | rfl | (simp; done) | (simp [*]; done), by repeat (first | exact Drawn0.refl _ | apply Drawn0.step)⟩
      · replace c4 := Bool.eq_false_iff.mpr c4
        subst c4
        have H1 : (if 57343 < a0 then (if a0 ≤ 1114111 then (some true) else (some false)) else (some false)) = some r := by rw [if_neg (show ¬ (false = true) by decide)] at H; exact H
        clear H
        have H := H1
        clear H1
        by_cases c5 : 57343 < a0
        · rw [if_pos c5] at H
          have c5b0 : decide (57343 < a0) = true := decide_eq_true c5
          clear c5
          by_cases c6 : a0 ≤ 1114111
          · rw [if_pos c6] at H
            have c6b0 : decide (a0 ≤ 1114111) = true := decide_eq_true c6
            clear c6
            obtain rfl := Option.some.inj H
            go_wp2
            go_ret
            exact ⟨by first | rfl | (simp; done) | (simp [*]; done), by repeat (first | exact Drawn0.refl _ | apply Drawn0.step)⟩
          · rw [if_neg c6] at H
            have c6b0 : decide (a0 ≤ 1114111) = false := decide_eq_false c6
            clear c6
            obtain rfl := Option.some.inj H
            go_wp2
            go_ret
            exact ⟨by first | rfl | (simp; done) | (simp [*]; done), by repeat (first | exact Drawn0.refl _ | apply Drawn0.step)⟩
        · rw [if_neg c5] at H
          have c5b0 : decide (57343 < a0) = false := decide_eq_false c5
          clear c5
          obtain rfl := Option.some.inj H
          go_wp2
          go_ret
          exact ⟨by first | rfl | (simp; done) | (simp [*]; done), by repeat (first | exact Drawn0.refl _ | apply Drawn0.step)⟩

-- NOT PRINTED: function 36 (strings_IndexRune)

-- NOT PRINTED: function 33 (strings_ContainsRune)

/-! ### class_Blank: function 27 -/
def class_Blank.f (a0 : Int) : Option Bool := if -2147483648 ≤ a0 then (if a0 ≤ 2147483647 then some (decide (a0 = 9 ∨ a0 = 10 ∨ a0 = 12 ∨ a0 = 32)) else none) else none
theorem class_Blank.ret_bool {a b : Bool} (h : a = b) : Ending.returned (.bool a) = .returned (.bool b) := by rw [h]
theorem class_Blank.bl_iter (w : World) (s : ByteArray) (p : Nat) : Below w.heap.size w (w.iter s p) := (Below.refl _ _).alloc (Nat.le_refl _) _
theorem class_Blank.bl_drewN {B : Nat} {w W : World} (h : Below B w W) (n : Nat) : Below B w (W.drewN n) := ⟨h.os, h.tape, h.output, h.size, h.block⟩
theorem class_Blank.ibs (s : ByteArray) (c : Int) (w : World) : (callFunc 43 #[.string s, .int .u8 c]).run Try.prog w = .ok (.value (.int .i64 (Lib.indexByte s.data.toList c.toNat.toUInt8))) w := by
  rw [run_callFunc_extern Try.func43 (by kernel_rfl) (by kernel_rfl) (by kernel_rfl) (e := Extern.BytealgIndexByte.indexByte) (by kernel_rfl), Lib.run_indexByteString]
  rfl
theorem class_Blank.ib20 (s : ByteArray) (c : Int) (w : World) : Calls Try.prog 41 #[.string s, .int .u8 c] w fun e w' => e = .returned (.int .i64 (Lib.indexByte s.data.toList c.toNat.toUInt8)) ∧ w' = w := by
  have hib := class_Blank.ibs
  go_enter Try.func41, Try.ntmps41
  go_wp2
  go_ret
  exact ⟨rfl, rfl⟩
theorem class_Blank.quiet_add_same {P : Program} {f : FuncId} {args : Array Value} {w : World} {a n : Nat} {v : Value}
    (h : Calls P f args (w.drewN (a + n)) fun e w' => e = .returned v ∧ w' = w.drewN (a + n)) :
    Calls P f args (w.drewN (a + n)) fun e w'' => e = .returned v ∧ ∃ m, w'' = w.drewN (a + m) :=
  h.mono fun _ _ ⟨he, hm⟩ => ⟨he, n, hm⟩
theorem class_Blank.ib_none : ∀ (l : List UInt8) (c : UInt8), (∀ x ∈ l, x.toNat < 128) → 128 ≤ c.toNat → Lib.indexByte l c = -1
  | [], _, _, _ => rfl
  | x :: l, c, h, hc => by
    have hx : (x == c) = false := by
      rw [beq_eq_false_iff_ne]
      rintro rfl
      have := h x (List.mem_cons_self)
      omega
    unfold Lib.indexByte
    rw [hx, class_Blank.ib_none l c (fun y hy => h y (List.mem_cons_of_mem _ hy)) hc]
    rfl
/-- A character beyond ASCII: its last byte is no ASCII byte. -/
theorem class_Blank.enc_shape (a0 : Int) (h : 128 ≤ a0) (h1 : a0 ≤ 1114111) (h2 : a0 < 55296 ∨ 57344 ≤ a0) : (∃ x y : UInt8, 128 ≤ (y.toNat : Int) ∧ Utf8.encode a0 = ⟨#[x, y]⟩) ∨ (∃ x u y : UInt8, 128 ≤ (y.toNat : Int) ∧ Utf8.encode a0 = ⟨#[x, u, y]⟩) ∨ (∃ x u v y : UInt8, 128 ≤ (y.toNat : Int) ∧ Utf8.encode a0 = ⟨#[x, u, v, y]⟩) := by
  have hv : Utf8.valid a0 = true := by
    unfold Utf8.valid
    simp
    omega
  obtain ⟨n, rfl⟩ := Int.eq_ofNat_of_zero_le (show 0 ≤ a0 by omega)
  unfold Utf8.encode
  rw [if_pos hv]
  simp only [Int.toNat_natCast]
  have hy : 128 ≤ (((UInt8.ofNat (0x80 + n % 64)).toNat : Nat) : Int) := by
    rw [UInt8.toNat_ofNat']
    omega
  by_cases h3 : n < 0x800
  · rw [if_neg (by omega), if_pos h3]
    exact Or.inl ⟨_, _, hy, rfl⟩
  · by_cases h4 : n < 0x10000
    · rw [if_neg (by omega), if_neg h3, if_pos h4]
      exact Or.inr (Or.inl ⟨_, _, _, hy, rfl⟩)
    · rw [if_neg (by omega), if_neg h3, if_neg h4]
      exact Or.inr (Or.inr ⟨_, _, _, _, hy, rfl⟩)
set_option maxRecDepth 100000 in
set_option maxHeartbeats 4000000 in
theorem class_Blank.far1 (a0 : Int) (x y : UInt8) (hE : Utf8.encode a0 = ⟨#[x, y]⟩) (hb : 128 ≤ (y.toNat : Int)) (w : World) (h : 128 ≤ a0) (h1 : a0 ≤ 1114111) (h2 : a0 < 55296 ∨ 57344 ≤ a0) (e1 : (a0 == 65533) = false) :
    Calls Try.prog 27 #[.int .i32 a0] w fun e w' => e = .returned (.bool false) ∧ Below w.heap.size w w' := by
  have hw2 : IntKind.i64.wrap 2 = 2 := by decide
  have hw3 : IntKind.i64.wrap (1 + 1) = 2 := by decide
  have hq : ((((({ data := #[9, 10, 12, 32] } : ByteArray)[1]'(by decide)).toNat : Nat) : Int) != (((({ data := #[x, y] } : ByteArray)[1]'(by show 1 < 2; decide)).toNat : Nat) : Int)) = true := by
    rw [bne_iff_ne]
    show (10 : Int) ≠ (y.toNat : Int)
    omega
  have ho : Lib.indexByte [12, 32] (({ data := #[x, y] } : ByteArray)[1]'(by show 1 < 2; decide)) < 0 := by
    rw [class_Blank.ib_none _ _ (by decide) (by show 128 ≤ y.toNat; omega)]
    decide
  have hy : (y.toNat : Int) < 256 := by have := y.toNat_lt; omega
  rcases h2 with h2 | h2
  all_goals
    go_enter Try.func27, Try.ntmps27
    go_wp2
    go_step3
    go_wp2
    refine wp_loop_rounds 1 ?_
    rw [rounds_succ]
    go_wp2
    go_step3
    go_wp2
    go_quiet (fail)
    go_wp2
    go_quiet ((go_at_call 41; exact class_Blank.quiet_add_same (class_Blank.ib20 _ _ _)))
    go_wp2
    rw [Exit.noGoto_ret]
    go_wp2
    rw [Exit.noGoto_ret]
    go_wp2
    go_ret
    refine ⟨rfl, ?_⟩
    repeat (first | exact Below.refl _ _ | apply class_Blank.bl_drewN)
set_option maxRecDepth 100000 in
set_option maxHeartbeats 4000000 in
theorem class_Blank.far2 (a0 : Int) (x u y : UInt8) (hE : Utf8.encode a0 = ⟨#[x, u, y]⟩) (hb : 128 ≤ (y.toNat : Int)) (w : World) (h : 128 ≤ a0) (h1 : a0 ≤ 1114111) (h2 : a0 < 55296 ∨ 57344 ≤ a0) (e1 : (a0 == 65533) = false) :
    Calls Try.prog 27 #[.int .i32 a0] w fun e w' => e = .returned (.bool false) ∧ Below w.heap.size w w' := by
  have hw2 : IntKind.i64.wrap 3 = 3 := by decide
  have hw3 : IntKind.i64.wrap (2 + 1) = 3 := by decide
  have hq : ((((({ data := #[9, 10, 12, 32] } : ByteArray)[2]'(by decide)).toNat : Nat) : Int) != (((({ data := #[x, u, y] } : ByteArray)[2]'(by show 2 < 3; decide)).toNat : Nat) : Int)) = true := by
    rw [bne_iff_ne]
    show (12 : Int) ≠ (y.toNat : Int)
    omega
  have ho : Lib.indexByte [32] (({ data := #[x, u, y] } : ByteArray)[2]'(by show 2 < 3; decide)) < 0 := by
    rw [class_Blank.ib_none _ _ (by decide) (by show 128 ≤ y.toNat; omega)]
    decide
  have hy : (y.toNat : Int) < 256 := by have := y.toNat_lt; omega
  rcases h2 with h2 | h2
  all_goals
    go_enter Try.func27, Try.ntmps27
    go_wp2
    go_step3
    go_wp2
    refine wp_loop_rounds 1 ?_
    rw [rounds_succ]
    go_wp2
    go_step3
    go_wp2
    go_quiet (fail)
    go_wp2
    go_quiet ((go_at_call 41; exact class_Blank.quiet_add_same (class_Blank.ib20 _ _ _)))
    go_wp2
    rw [Exit.noGoto_ret]
    go_wp2
    rw [Exit.noGoto_ret]
    go_wp2
    go_ret
    refine ⟨rfl, ?_⟩
    repeat (first | exact Below.refl _ _ | apply class_Blank.bl_drewN)
set_option maxRecDepth 100000 in
set_option maxHeartbeats 4000000 in
theorem class_Blank.far3 (a0 : Int) (x u v y : UInt8) (hE : Utf8.encode a0 = ⟨#[x, u, v, y]⟩) (hb : 128 ≤ (y.toNat : Int)) (w : World) (h : 128 ≤ a0) (h1 : a0 ≤ 1114111) (h2 : a0 < 55296 ∨ 57344 ≤ a0) (e1 : (a0 == 65533) = false) :
    Calls Try.prog 27 #[.int .i32 a0] w fun e w' => e = .returned (.bool false) ∧ Below w.heap.size w w' := by
  have hw2 : IntKind.i64.wrap 4 = 4 := by decide
  have hw3 : IntKind.i64.wrap (3 + 1) = 4 := by decide
  have hq : ((((({ data := #[9, 10, 12, 32] } : ByteArray)[3]'(by decide)).toNat : Nat) : Int) != (((({ data := #[x, u, v, y] } : ByteArray)[3]'(by show 3 < 4; decide)).toNat : Nat) : Int)) = true := by
    rw [bne_iff_ne]
    show (32 : Int) ≠ (y.toNat : Int)
    omega
  have ho : Lib.indexByte [] (({ data := #[x, u, v, y] } : ByteArray)[3]'(by show 3 < 4; decide)) < 0 := by
    rw [class_Blank.ib_none _ _ (by decide) (by show 128 ≤ y.toNat; omega)]
    decide
  have hy : (y.toNat : Int) < 256 := by have := y.toNat_lt; omega
  rcases h2 with h2 | h2
  all_goals
    go_enter Try.func27, Try.ntmps27
    go_wp2
    go_step3
    go_wp2
    refine wp_loop_rounds 1 ?_
    rw [rounds_succ]
    go_wp2
    go_step3
    go_wp2
    go_quiet (fail)
    go_wp2
    go_quiet ((go_at_call 41; exact class_Blank.quiet_add_same (class_Blank.ib20 _ _ _)))
    go_wp2
    rw [Exit.noGoto_ret]
    go_wp2
    rw [Exit.noGoto_ret]
    go_wp2
    go_ret
    refine ⟨rfl, ?_⟩
    repeat (first | exact Below.refl _ _ | apply class_Blank.bl_drewN)
set_option maxRecDepth 100000 in
set_option maxHeartbeats 4000000 in
theorem class_Blank.neg (a0 : Int) (w : World) (h : a0 < 0) (h0 : -2147483648 ≤ a0) : Calls Try.prog 27 #[.int .i32 a0] w fun e w' => e = .returned (.bool false) ∧ Below w.heap.size w w' := by
  go_enter Try.func27, Try.ntmps27
  go_wp2
  go_ret
  exact ⟨rfl, Below.refl _ _⟩
set_option maxRecDepth 100000 in
set_option maxHeartbeats 4000000 in
theorem class_Blank.asc (a0 : Int) (w : World) (h : 0 ≤ a0) (h1 : a0 < 128) : Calls Try.prog 27 #[.int .i32 a0] w fun e w' => e = .returned (.bool (decide (a0 = 9 ∨ a0 = 10 ∨ a0 = 12 ∨ a0 = 32))) ∧ Below w.heap.size w w' := by
  have hib := class_Blank.ibs
  go_enter Try.func27, Try.ntmps27
  go_wp2
  go_ret
  refine ⟨class_Blank.ret_bool ?_, Below.refl _ _⟩
  obtain ⟨n, rfl⟩ := Int.eq_ofNat_of_zero_le h
  have hall : ∀ m : Fin 128, decide (0 ≤ Lib.indexByte [9, 10, 12, 32] (((m.val : Nat) : Int)).toNat.toUInt8) = decide (((m.val : Nat) : Int) = 9 ∨ ((m.val : Nat) : Int) = 10 ∨ ((m.val : Nat) : Int) = 12 ∨ ((m.val : Nat) : Int) = 32) := by decide +kernel
  exact hall ⟨n, by omega⟩
set_option maxRecDepth 100000 in
set_option maxHeartbeats 4000000 in
theorem class_Blank.bad (a0 : Int) (w : World) (h : (55296 ≤ a0 ∧ a0 < 57344) ∨ 1114111 < a0) (h1 : a0 ≤ 2147483647) : Calls Try.prog 27 #[.int .i32 a0] w fun e w' => e = .returned (.bool false) ∧ Below w.heap.size w w' := by
  have e1 : (a0 == 65533) = false := by simp; omega
  rcases h with ⟨h2, h3⟩ | h2
  all_goals
    go_enter Try.func27, Try.ntmps27
    go_wp2
    go_ret
    exact ⟨rfl, Below.refl _ _⟩
theorem class_Blank.nx0 (w : World) : (Instr.next (.pointer (some ⟨w.heap.size, 0, none⟩)) true 0).run Try.prog (w.iter ⟨#[9, 10, 12, 32]⟩ 0) = .ok (.tuple #[.bool true, .int .i64 0, .int .i32 9]) (w.iter ⟨#[9, 10, 12, 32]⟩ 1) := run_next_ascii w ⟨#[9, 10, 12, 32]⟩ 0 0 (by decide) (by decide)
theorem class_Blank.nx1 (w : World) : (Instr.next (.pointer (some ⟨w.heap.size, 0, none⟩)) true 0).run Try.prog (w.iter ⟨#[9, 10, 12, 32]⟩ 1) = .ok (.tuple #[.bool true, .int .i64 1, .int .i32 10]) (w.iter ⟨#[9, 10, 12, 32]⟩ 2) := run_next_ascii w ⟨#[9, 10, 12, 32]⟩ 1 0 (by decide) (by decide)
theorem class_Blank.nx2 (w : World) : (Instr.next (.pointer (some ⟨w.heap.size, 0, none⟩)) true 0).run Try.prog (w.iter ⟨#[9, 10, 12, 32]⟩ 2) = .ok (.tuple #[.bool true, .int .i64 2, .int .i32 12]) (w.iter ⟨#[9, 10, 12, 32]⟩ 3) := run_next_ascii w ⟨#[9, 10, 12, 32]⟩ 2 0 (by decide) (by decide)
theorem class_Blank.nx3 (w : World) : (Instr.next (.pointer (some ⟨w.heap.size, 0, none⟩)) true 0).run Try.prog (w.iter ⟨#[9, 10, 12, 32]⟩ 3) = .ok (.tuple #[.bool true, .int .i64 3, .int .i32 32]) (w.iter ⟨#[9, 10, 12, 32]⟩ 4) := run_next_ascii w ⟨#[9, 10, 12, 32]⟩ 3 0 (by decide) (by decide)
theorem class_Blank.nx4 (w : World) : (Instr.next (.pointer (some ⟨w.heap.size, 0, none⟩)) true 0).run Try.prog (w.iter ⟨#[9, 10, 12, 32]⟩ 4) = .ok (.tuple #[.bool false]) (w.iter ⟨#[9, 10, 12, 32]⟩ 4) := run_next_end w ⟨#[9, 10, 12, 32]⟩ 4 0 (by decide)
set_option maxRecDepth 100000 in
set_option maxHeartbeats 4000000 in
theorem class_Blank.rep (w : World) : Calls Try.prog 27 #[.int .i32 65533] w fun e w' => e = .returned (.bool false) ∧ Below w.heap.size w w' := by
  have n0 := class_Blank.nx0 w
  have n1 := class_Blank.nx1 w
  have n2 := class_Blank.nx2 w
  have n3 := class_Blank.nx3 w
  have n4 := class_Blank.nx4 w
  go_enter Try.func27, Try.ntmps27
  go_wp2
  go_rounds 5
  go_ret
  exact ⟨rfl, class_Blank.bl_iter w _ _⟩
theorem class_Blank.calls (a0 : Int) (r : Bool) (w : World) (h : class_Blank.f a0 = some r) :
    Calls Try.prog 27 #[.int .i32 a0] w fun e w' => e = .returned (.bool r) ∧ Below w.heap.size w w' := by
  unfold class_Blank.f at h
  by_cases h0 : -2147483648 ≤ a0
  · rw [if_pos h0] at h
    by_cases h1 : a0 ≤ 2147483647
    · rw [if_pos h1] at h
      obtain rfl := Option.some.inj h
      by_cases c0 : a0 < 0
      · rw [decide_eq_false (by omega)]
        exact class_Blank.neg a0 w c0 h0
      · by_cases c1 : a0 < 128
        · exact class_Blank.asc a0 w (by omega) c1
        · rw [decide_eq_false (by omega)]
          by_cases c2 : a0 = 65533
          · subst c2
            exact class_Blank.rep w
          · by_cases c3 : (55296 ≤ a0 ∧ a0 < 57344) ∨ 1114111 < a0
            · exact class_Blank.bad a0 w c3 h1
            · have e1 : (a0 == 65533) = false := by simpa using c2
              rcases class_Blank.enc_shape a0 (by omega) (by omega) (by omega) with ⟨x, y, hy, hE⟩ | ⟨x, u, y, hy, hE⟩ | ⟨x, u, v, y, hy, hE⟩
              · exact class_Blank.far1 a0 x y hE hy w (by omega) (by omega) (by omega) e1
              · exact class_Blank.far2 a0 x u y hE hy w (by omega) (by omega) (by omega) e1
              · exact class_Blank.far3 a0 x u v y hE hy w (by omega) (by omega) (by omega) e1
    · rw [if_neg h1] at h
      cases h
  · rw [if_neg h0] at h
    cases h

end Go.Proofs.Ytdppomkilojmlaa.PRaw
