-- Laid by a program of this session (tools/patch_print.py) out of the translation. Not trusted: Lean checks it.
import Derived.Test.YtinjbabmpnljoaaDoorPClassTx0
import Derived.Test.YtinjbabmpnljoaaDoorPClassTx1
namespace Go.Proofs.YtinjbabmpnljoaaDoor.PClassT
open Go.RowKit Go.Proofs.YtinjbabmpnljoaaDoorW.PrintWords Go.Proofs.YtinjbabmpnljoaaDoorW.PrintLast Go.Proofs.YtinjbabmpnljoaaDoorW.PrintMore
attribute [local go_sem] max2_int min2_int max_two min_two max_three min_three max_four min_four   -- for this text's walks alone
set_option linter.unusedVariables false
set_option linter.unusedSimpArgs false

/-! ### decanterref03_Trim: function 25 -/
mutual
def decanterref03_Trim.j1 : Nat → ByteArray → Option (ByteArray)
  | 0, _ => none
  | k + 1, x0 => decanterref03_Trim.l1 k x0
def decanterref03_Trim.l1 : Nat → ByteArray → Option (ByteArray)
  | 0, _ => none
  | k + 1, x0 => if (x0.size : Int) > 0 then (if 0 ≤ (wrap64 ((x0.size : Int) - 1)) then (if (wrap64 ((x0.size : Int) - 1)) < (x0.size : Int) then ((decanterref03_Blank.f (wrap64 (bt x0 (wrap64 ((x0.size : Int) - 1))))).bind fun t111 => (if t111 = true then (if (wrap64 ((x0.size : Int) - 1)) ≤ (x0.size : Int) then (decanterref03_Trim.l1 k (x0.extract 0 ((wrap64 ((x0.size : Int) - 1)) : Int).toNat)) else (none)) else (some x0))) else (none)) else (none)) else (some x0)
def decanterref03_Trim.l0 : Nat → ByteArray → Option (ByteArray)
  | 0, _ => none
  | k + 1, x0 => if (x0.size : Int) > 0 then (if 0 < (x0.size : Int) then ((decanterref03_Blank.f (wrap64 (bt x0 0))).bind fun t110 => (if t110 = true then (if 1 ≤ (x0.size : Int) then (decanterref03_Trim.l0 k (x0.extract 1 x0.size)) else (none)) else (decanterref03_Trim.j1 k x0))) else (none)) else (decanterref03_Trim.j1 k x0)
end
def decanterref03_Trim.f (k : Nat) (a0 : ByteArray) : Option (ByteArray) := decanterref03_Trim.l0 k a0
theorem decanterref03_Trim.mono_l : ∀ k, (∀ y0, LeO (decanterref03_Trim.j1 k y0) (decanterref03_Trim.j1 (k + 1) y0)) ∧ (∀ y0, LeO (decanterref03_Trim.l1 k y0) (decanterref03_Trim.l1 (k + 1) y0)) ∧ (∀ y0, LeO (decanterref03_Trim.l0 k y0) (decanterref03_Trim.l0 (k + 1) y0))
  | 0 => ⟨fun _ r h => by simp [decanterref03_Trim.j1] at h, fun _ r h => by simp [decanterref03_Trim.l1] at h, fun _ r h => by simp [decanterref03_Trim.l0] at h⟩
  | k + 1 => by
    obtain ⟨ih0, ih1, ih2⟩ := decanterref03_Trim.mono_l k
    refine ⟨?_, ?_, ?_⟩
    · intro y0
      unfold decanterref03_Trim.j1
      repeat' first
      | (with_reducible exact ih0 _)
      | (with_reducible exact ih1 _)
      | (with_reducible exact ih2 _)
      | (with_reducible exact LeO.refl _)
      | (with_reducible exact LeO.none _)
      | (with_reducible refine LeO.ite ?_ ?_)
      | (with_reducible refine LeO.bind ?_ (fun _ => ?_))
      | exact ih0 _
      | exact ih1 _
      | exact ih2 _
      | exact LeO.none _
      | refine LeO.ite ?_ ?_
      | refine LeO.bind ?_ (fun _ => ?_)
    · intro y0
      unfold decanterref03_Trim.l1
      repeat' first
      | (with_reducible exact ih0 _)
      | (with_reducible exact ih1 _)
      | (with_reducible exact ih2 _)
      | (with_reducible exact LeO.refl _)
      | (with_reducible exact LeO.none _)
      | (with_reducible refine LeO.ite ?_ ?_)
      | (with_reducible refine LeO.bind ?_ (fun _ => ?_))
      | exact ih0 _
      | exact ih1 _
      | exact ih2 _
      | exact LeO.none _
      | refine LeO.ite ?_ ?_
      | refine LeO.bind ?_ (fun _ => ?_)
    · intro y0
      unfold decanterref03_Trim.l0
      repeat' first
      | (with_reducible exact ih0 _)
      | (with_reducible exact ih1 _)
      | (with_reducible exact ih2 _)
      | (with_reducible exact LeO.refl _)
      | (with_reducible exact LeO.none _)
      | (with_reducible refine LeO.ite ?_ ?_)
      | (with_reducible refine LeO.bind ?_ (fun _ => ?_))
      | exact ih0 _
      | exact ih1 _
      | exact ih2 _
      | exact LeO.none _
      | refine LeO.ite ?_ ?_
      | refine LeO.bind ?_ (fun _ => ?_)
theorem decanterref03_Trim.mono : ∀ a0 k, LeO (decanterref03_Trim.f k a0) (decanterref03_Trim.f (k + 1) a0) := by
  intro a0 k
  obtain ⟨ih0, ih1, ih2⟩ := decanterref03_Trim.mono_l k
  unfold decanterref03_Trim.f
  repeat' first
      | (with_reducible exact ih0 _)
      | (with_reducible exact ih1 _)
      | (with_reducible exact ih2 _)
      | (with_reducible exact LeO.refl _)
      | (with_reducible exact LeO.none _)
      | (with_reducible refine LeO.ite ?_ ?_)
      | (with_reducible refine LeO.bind ?_ (fun _ => ?_))
      | exact ih0 _
      | exact ih1 _
      | exact ih2 _
      | exact LeO.none _
      | refine LeO.ite ?_ ?_
      | refine LeO.bind ?_ (fun _ => ?_)
set_option maxHeartbeats 8000000 in
set_option maxRecDepth 100000 in
theorem decanterref03_Trim.calls (k : Nat) (a0 : ByteArray) (r : ByteArray) (w : World) (h : decanterref03_Trim.f k a0 = some r) :
    Calls Tryd.prog 25 #[.string a0] w fun e w' => e = .returned (.string r) ∧ Drawn0 w w' := by
  have H : (decanterref03_Trim.l0 k a0) = some r := h
  clear h
  have HC2 := Aside0.mk H
  clear H
  go_enter Tryd.func25, Tryd.ntmps25
  go_upto_block 0 with (fail)
  go_cut [0] (fun v0 wc => ∃ (kq : Nat) (x0_1 : ByteArray), v0 = .string x0_1 ∧ Aside0 (decanterref03_Trim.j1 kq x0_1 = some r) ∧ Aside0 (kq ≤ k) ∧ Drawn0 w wc)
  case first =>
    have H := HC2.out
    clear HC2
    have H' := Aside0.mk H
    clear H
    go_wp2
    go_loopg [0] k (fun kq v0 w' => ∃ (x0_1 : ByteArray), v0 = .string x0_1 ∧ Aside0 (decanterref03_Trim.l0 kq x0_1 = some r) ∧ Aside0 (kq ≤ k) ∧ Drawn0 w w')
    case atStart => exact ⟨(a0), (by first | rfl | (simp; done) | (simp [*]; done)), H', ⟨Nat.le_refl _⟩, by repeat (first | exact Drawn0.refl _ | apply Drawn0.step)⟩
    case round =>
      clear H'
      try clear c2
      try clear p2
      obtain ⟨x0_1, rfl, HA, HK1, ⟨m1, rfl⟩⟩ := hrel
      cases gk with
      | zero => exact absurd HA.out (by simp [decanterref03_Trim.l0])
      | succ k1 =>
        have H := HA.out
        clear HA
        simp only [decanterref03_Trim.l0] at H
        by_cases c3 : (x0_1.size : Int) > 0
        · rw [if_pos c3] at H
          have c3b0 : decide (0 < (x0_1.size : Int)) = true := decide_eq_true c3
          have c3b1 : decide (0 < x0_1.size) = true := decide_eq_true (by omega)
          clear c3
          (first | rw [c3b0] | (simp only [i64_w, i32_w]; rw [c3b0]) | skip)
          by_cases c4 : 0 < (x0_1.size : Int)
          · rw [if_pos c4] at H
            have c4b0 : decide (0 < (x0_1.size : Int)) = true := decide_eq_true c4
            have c4b1 : decide (0 < x0_1.size) = true := decide_eq_true (by omega)
            clear c4
            replace H := Option.bind_eq_some_iff.mp H
            obtain ⟨t110, A60, H⟩ := H
            replace H : (if t110 = true then (if 1 ≤ (x0_1.size : Int) then (decanterref03_Trim.l0 k1 (x0_1.extract 1 x0_1.size)) else (none)) else (decanterref03_Trim.j1 k1 x0_1)) = some r := H
            have A6 := Aside0.mk A60
            clear A60
            by_cases c7 : t110 = true
            · subst c7
              have H1 : (if 1 ≤ (x0_1.size : Int) then (decanterref03_Trim.l0 k1 (x0_1.extract 1 x0_1.size)) else (none)) = some r := by rw [if_pos rfl] at H; exact H
              clear H
              have H := H1
              clear H1
              by_cases c8 : 1 ≤ (x0_1.size : Int)
              · rw [if_pos c8] at H
                have c8b0 := eq_true c8
                have c8b1 : decide (1 ≤ (x0_1.size : Int)) = true := decide_eq_true c8
                clear c8
                have H' := Aside0.mk H
                clear H
                have p5 : 0 ≤ (0 : Int) := (by omega)
                have q5 : 0 < x0_1.size := (by have : (0 : Int) < (x0_1.size : Int) := of_decide_eq_true (by first | (with_reducible assumption) | assumption); omega)
                have hx5 : ∀ h : 0 < x0_1.size, ((x0_1[0]'h).toNat : Int) = bt x0_1 0 := bt_at x0_1 0
                clear p5
                have qi5 : (0 < (x0_1.size : Int)) = True := eq_true (of_decide_eq_true (by first | (with_reducible assumption) | assumption))
                replace q5 := eq_true q5
                go_wp2_with (first | (go_at_call 40; (with_reducible refine (decanterref03_Blank.calls (wrap64 (bt x0_1 0)) true _ A6.out).mono ?_); rintro e w' ⟨rfl, ⟨nd, rfl⟩⟩))
                go_roundg k1
                case measure => have := HK1.out; omega
                case rel => exact ⟨(x0_1.extract 1 x0_1.size), (by first | rfl | (simp; done) | (simp [*]; done)), H', ⟨by have := HK1.out; omega⟩, by repeat (first | exact Drawn0.refl _ | apply Drawn0.step)⟩
              · rw [if_neg c8] at H
                exact absurd H (by simp)
            · replace c7 := Bool.eq_false_iff.mpr c7
              subst c7
              have H1 : (decanterref03_Trim.j1 k1 x0_1) = some r := by rw [if_neg (show ¬ (false = true) by decide)] at H; exact H
              clear H
              have H := H1
              clear H1
              have H' := Aside0.mk H
              clear H
              have p5 : 0 ≤ (0 : Int) := (by omega)
              have q5 : 0 < x0_1.size := (by have : (0 : Int) < (x0_1.size : Int) := of_decide_eq_true (by first | (with_reducible assumption) | assumption); omega)
              have hx5 : ∀ h : 0 < x0_1.size, ((x0_1[0]'h).toNat : Int) = bt x0_1 0 := bt_at x0_1 0
              clear p5
              have qi5 : (0 < (x0_1.size : Int)) = True := eq_true (of_decide_eq_true (by first | (with_reducible assumption) | assumption))
              replace q5 := eq_true q5
              go_wp2_with (first | (go_at_call 40; (with_reducible refine (decanterref03_Blank.calls (wrap64 (bt x0_1 0)) false _ A6.out).mono ?_); rintro e w' ⟨rfl, ⟨nd, rfl⟩⟩))
              go_meet
              case rel => exact ⟨_, (x0_1), (by first | rfl | (simp; done) | (simp [*]; done)), H', ⟨by have := HK1.out; first | omega | exact Nat.le_refl _⟩, by repeat (first | exact Drawn0.refl _ | apply Drawn0.step)⟩
          · rw [if_neg c4] at H
            exact absurd H (by simp)
        · rw [if_neg c3] at H
          have c3b0 : decide (0 < (x0_1.size : Int)) = false := decide_eq_false c3
          have c3b1 : decide (0 < x0_1.size) = false := decide_eq_false (by omega)
          clear c3
          (first | rw [c3b0] | (simp only [i64_w, i32_w]; rw [c3b0]) | skip)
          have H' := Aside0.mk H
          clear H
          go_wp2
          go_meet
          case rel => exact ⟨_, (x0_1), (by first | rfl | (simp; done) | (simp [*]; done)), H', ⟨by have := HK1.out; first | omega | exact Nat.le_refl _⟩, by repeat (first | exact Drawn0.refl _ | apply Drawn0.step)⟩
  case rest =>
    clear HC2
    try clear c2
    try clear p2
    try clear c3
    try clear c3b0
    try clear c3b1
    try clear c4
    try clear c4b0
    try clear c4b1
    try clear p5
    try clear q5
    try clear hx5
    try clear qi5
    try clear p6
    try clear c7
    try clear c8
    try clear c8b0
    try clear c8b1
    try clear p2
    try clear p5
    try clear q5
    obtain ⟨kq, x0_1, rfl, HA, HJ1, ⟨mc1, rfl⟩⟩ := hcut
    cases kq with
    | zero => exact absurd HA.out (by simp [decanterref03_Trim.j1])
    | succ kj1 =>
      have H := HA.out
      clear HA
      simp only [decanterref03_Trim.j1] at H
      have H' := Aside0.mk H
      clear H
      go_wp2
      go_loopg [0] kj1 (fun kq v0 w' => ∃ (x0_2 : ByteArray), v0 = .string x0_2 ∧ Aside0 (decanterref03_Trim.l1 kq x0_2 = some r) ∧ Aside0 (kq ≤ kj1) ∧ Drawn0 w w')
      case atStart => exact ⟨(x0_1), (by first | rfl | (simp; done) | (simp [*]; done)), H', ⟨Nat.le_refl _⟩, by repeat (first | exact Drawn0.refl _ | apply Drawn0.step)⟩
      case round =>
        clear H'
        try clear c1
        try clear c2
        try clear p2
        try clear c3
        try clear c3b0
        try clear c3b1
        try clear c4
        try clear c4b0
        try clear c4b1
        try clear p5
        try clear q5
        try clear hx5
        try clear qi5
        try clear p6
        try clear c7
        try clear c8
        try clear c8b0
        try clear c8b1
        try clear p2
        try clear p5
        try clear p6
        try clear q5
        obtain ⟨x0_2, rfl, HA, HK2, ⟨m2, rfl⟩⟩ := hrel
        cases gk with
        | zero => exact absurd HA.out (by simp [decanterref03_Trim.l1])
        | succ k2 =>
          have H := HA.out
          clear HA
          simp only [decanterref03_Trim.l1] at H
          by_cases c9 : (x0_2.size : Int) > 0
          · rw [if_pos c9] at H
            have c9b0 : decide (0 < (x0_2.size : Int)) = true := decide_eq_true c9
            have c9b1 : decide (0 < x0_2.size) = true := decide_eq_true (by omega)
            clear c9
            obtain ⟨ji10, hji10⟩ : ∃ j_ : Int, (wrap64 ((x0_2.size : Int) - 1)) = j_ := ⟨_, rfl⟩
            replace H : (if 0 ≤ (ji10) then (if (ji10) < (x0_2.size : Int) then ((decanterref03_Blank.f (wrap64 (bt x0_2 (ji10)))).bind fun t111 => (if t111 = true then (if (ji10) ≤ (x0_2.size : Int) then (decanterref03_Trim.l1 k2 (x0_2.extract 0 ((ji10) : Int).toNat)) else (none)) else (some x0_2))) else (none)) else (none)) = some r := by first | (rw [hji10] at H; exact H) | (simp only [hji10] at H ⊢; exact H)
            have hji10w : (IntKind.i64.wrap ((x0_2.size : Int) - 1)) = ji10 := (i64_w _).trans hji10
            by_cases c11 : 0 ≤ (ji10)
            · rw [if_pos c11] at H
              have c11b0 : decide (0 ≤ (ji10)) = true := decide_eq_true c11
              clear c11
              by_cases c12 : (ji10) < (x0_2.size : Int)
              · rw [if_pos c12] at H
                have c12b0 : decide ((ji10) < (x0_2.size : Int)) = true := decide_eq_true c12
                clear c12
                replace H := Option.bind_eq_some_iff.mp H
                obtain ⟨t111, A140, H⟩ := H
                replace H : (if t111 = true then (if (ji10) ≤ (x0_2.size : Int) then (decanterref03_Trim.l1 k2 (x0_2.extract 0 ((ji10) : Int).toNat)) else (none)) else (some x0_2)) = some r := H
                have A14 := Aside0.mk A140
                clear A140
                by_cases c15 : t111 = true
                · subst c15
                  have H1 : (if (ji10) ≤ (x0_2.size : Int) then (decanterref03_Trim.l1 k2 (x0_2.extract 0 ((ji10) : Int).toNat)) else (none)) = some r := by rw [if_pos rfl] at H; exact H
                  clear H
                  have H := H1
                  clear H1
                  have c16b0 := eq_true (of_decide_eq_true (by first | (with_reducible assumption) | assumption) : 0 ≤ (ji10))
                  by_cases c17 : (ji10) ≤ (x0_2.size : Int)
                  · rw [if_pos c17] at H
                    have c17b0 := eq_true c17
                    have c17b1 : decide ((ji10) ≤ (x0_2.size : Int)) = true := decide_eq_true c17
                    clear c17
                    have H' := Aside0.mk H
                    clear H
                    have p13 : 0 ≤ ((ji10) : Int) := of_decide_eq_true (by first | (with_reducible assumption) | assumption)
                    have q13 : (ji10) < (x0_2.size : Int) := of_decide_eq_true (by first | (with_reducible assumption) | assumption)
                    have hx13 := bt_at x0_2 (ji10)
                    replace p13 := eq_true p13
                    replace q13 := eq_true q13
                    go_wp2_with (first | (go_at_call 40; (with_reducible refine (decanterref03_Blank.calls (wrap64 (bt x0_2 (ji10))) true _ A14.out).mono ?_); rintro e w' ⟨rfl, ⟨nd, rfl⟩⟩))
                    go_roundg k2
                    case measure => have := HJ1.out; have := HK2.out; omega
                    case rel => exact ⟨(x0_2.extract 0 ((ji10) : Int).toNat), (by first | rfl | (simp; done) | (simp only [← hji10] <;> (first | rfl | simp)) | (simp [*]; done)), H', ⟨by have := HJ1.out; have := HK2.out; omega⟩, by repeat (first | exact Drawn0.refl _ | apply Drawn0.step)⟩
                  · rw [if_neg c17] at H
                    exact absurd H (by simp)
                · replace c15 := Bool.eq_false_iff.mpr c15
                  subst c15
                  have H1 : (some x0_2) = some r := by rw [if_neg (show ¬ (false = true) by decide)] at H; exact H
                  clear H
                  have H := H1
                  clear H1
                  obtain rfl := Option.some.inj H
                  have p13 : 0 ≤ ((ji10) : Int) := of_decide_eq_true (by first | (with_reducible assumption) | assumption)
                  have q13 : (ji10) < (x0_2.size : Int) := of_decide_eq_true (by first | (with_reducible assumption) | assumption)
                  have hx13 := bt_at x0_2 (ji10)
                  replace p13 := eq_true p13
                  replace q13 := eq_true q13
                  go_wp2_with (first | (go_at_call 40; (with_reducible refine (decanterref03_Blank.calls (wrap64 (bt x0_2 (ji10))) false _ A14.out).mono ?_); rintro e w' ⟨rfl, ⟨nd, rfl⟩⟩))
                  go_ret
                  exact ⟨by first | rfl | (simp; done) | (simp only [← hji10] <;> (first | rfl | simp)) | (simp [*]; done), by repeat (first | exact Drawn0.refl _ | apply Drawn0.step)⟩
              · rw [if_neg c12] at H
                exact absurd H (by simp)
            · rw [if_neg c11] at H
              exact absurd H (by simp)
          · rw [if_neg c9] at H
            have c9b0 : decide (0 < (x0_2.size : Int)) = false := decide_eq_false c9
            have c9b1 : decide (0 < x0_2.size) = false := decide_eq_false (by omega)
            clear c9
            obtain rfl := Option.some.inj H
            go_wp2
            go_ret
            exact ⟨by first | rfl | (simp; done) | (simp [*]; done), by repeat (first | exact Drawn0.refl _ | apply Drawn0.step)⟩

/-! ### class_Name: function 26 -/
/-- May a byte stand at a place of a plain name? -/
def class_Name.okAt (i : Nat) (b : UInt8) : Bool := decide (97 ≤ b.toNat ∧ b.toNat ≤ 122) || (decide (0 < i) && (decide (48 ≤ b.toNat ∧ b.toNat ≤ 57) || decide (b.toNat = 45)))
def class_Name.okAll : Nat → List UInt8 → Bool
  | _, [] => true
  | i, b :: l => class_Name.okAt i b && class_Name.okAll (i + 1) l
def class_Name.f (a0 : ByteArray) : Option Bool := if a0.size ≤ 9223372036854775807 then some (decide (0 < a0.size) && class_Name.okAll 0 a0.data.toList) else none
theorem class_Name.decode_far (s : ByteArray) (pos : Nat) (h : pos < s.size) (ha : ¬ (s[pos]'h).toNat < 128) : ∃ c n, Utf8.decode s pos = (c, n) ∧ 128 ≤ c := by
  have e : s.get! (pos + 0) = s[pos]'h := by
    show s.get! pos = _
    simp [ByteArray.get!, getElem!_pos, h]
    rfl
  have hb := (s[pos]'h).toNat_lt
  simp only [Utf8.decode, e, ha, if_false]
  repeat' split
  all_goals refine ⟨_, _, rfl, ?_⟩
  all_goals first | decide | omega | (simp only [ge_iff_le, Bool.and_eq_true, beq_iff_eq, decide_eq_true_eq] at *; omega)
theorem class_Name.ret_b {a b : Bool} (h : a = b) : Ending.returned (.bool a) = .returned (.bool b) := by rw [h]
theorem class_Name.ok_yes (p : Nat) (b : UInt8) (z : Nat) (hz : z = b.toNat) (h : (97 ≤ z ∧ z ≤ 122) ∨ (0 < p ∧ (48 ≤ z ∧ z ≤ 57 ∨ z = 45))) : class_Name.okAt p b = true := by
  unfold class_Name.okAt
  subst hz
  simp only [Bool.or_eq_true, Bool.and_eq_true, decide_eq_true_eq]
  exact h
theorem class_Name.ok_no (p : Nat) (b : UInt8) (z : Nat) (hz : z = b.toNat) (h : ¬ (97 ≤ z ∧ z ≤ 122) ∧ ¬ (0 < p ∧ (48 ≤ z ∧ z ≤ 57 ∨ z = 45))) : class_Name.okAt p b = false := by
  rw [Bool.eq_false_iff]
  unfold class_Name.okAt
  subst hz
  simp only [ne_eq, Bool.or_eq_true, Bool.and_eq_true, decide_eq_true_eq]
  exact fun hh => hh.elim h.1 h.2
theorem class_Name.within_any (c a b : Int) (w : World) : Calls Tryd.prog 41 #[.int .i32 c, .int .i32 a, .int .i32 b] w fun e w' => e = .returned (.bool (decide (a ≤ c) && decide (c ≤ b))) ∧ w = w' := by
  by_cases h1 : a ≤ c
  · by_cases h2 : c ≤ b
    · go_enter Tryd.func41, Tryd.ntmps41
      go_wp2
      go_ret
      exact ⟨class_Name.ret_b (by simp [*]), rfl⟩
    · go_enter Tryd.func41, Tryd.ntmps41
      go_wp2
      go_ret
      exact ⟨class_Name.ret_b (show false = _ by simp; omega), rfl⟩
  · go_enter Tryd.func41, Tryd.ntmps41
    go_wp2
    go_ret
    exact ⟨class_Name.ret_b (show false = _ by simp; omega), rfl⟩
theorem class_Name.digit_any (c : Int) (w : World) : Calls Tryd.prog 42 #[.int .i32 c] w fun e w' => e = .returned (.bool (decide (48 ≤ c) && decide (c ≤ 57))) ∧ w = w' := by
  go_enter Tryd.func42, Tryd.ntmps42
  go_wp2_with (go_at_call 41; refine (class_Name.within_any c 48 57 _).mono ?_; rintro e w' ⟨rfl, rfl⟩)
  go_ret
  exact ⟨rfl, rfl⟩
theorem class_Name.next_far (w : World) (s : ByteArray) (pos : Nat) (ty : TypeId) (h : pos < s.size) (c n : Nat) (hd : Utf8.decode s pos = (c, n)) :
    (Instr.next (.pointer (some ⟨w.heap.size, 0, none⟩)) true ty).run Tryd.prog (w.iter s pos) = .ok (.tuple #[.bool true, .int .i64 pos, .int .i32 c]) (w.iter s (pos + n)) := by
  simp only [Instr.next, getObj, setObj, Sem.run_bind, Sem.run, World.iter_heap, Result.andThen, h, if_true, hd, World.iter_set]
  simp [goInt]
theorem class_Name.okAll_drop (l : List UInt8) (i p : Nat) (h : p < l.length) : class_Name.okAll i (l.drop p) = (class_Name.okAt i l[p] && class_Name.okAll (i + 1) (l.drop (p + 1))) := by
  rw [List.drop_eq_getElem_cons h, class_Name.okAll]
set_option maxRecDepth 100000 in
set_option maxHeartbeats 4000000 in
theorem class_Name.calls (a0 : ByteArray) (r : Bool) (w : World) (h : class_Name.f a0 = some r) :
    Calls Tryd.prog 26 #[.string a0] w fun e w' => e = .returned (.bool r) ∧ Below w.heap.size w w' := by
  unfold class_Name.f at h
  by_cases hs : a0.size ≤ 9223372036854775807
  · rw [if_pos hs] at h
    obtain rfl := Option.some.inj h
    clear h
    have hlen : a0.data.toList.length = a0.size := by rw [Array.length_toList]; rfl
    have HL := Lib.hid hlen
    clear hlen
    have hbel : ∀ p, Below w.heap.size w (w.iter a0 p) := fun p => (Below.refl _ _).alloc (Nat.le_refl _) _
    have HB := Lib.hid hbel
    clear hbel
    go_enter Tryd.func26, Tryd.ntmps26
    go_wp2
    go_loopg [] a0.size (fun gg wr => ∃ p : Nat, p ≤ a0.size ∧ a0.size - p ≤ gg ∧ wr = w.iter a0 p ∧ Hid (class_Name.okAll 0 a0.data.toList = class_Name.okAll p (a0.data.toList.drop p)))
    case atStart => exact ⟨0, by omega, by omega, rfl, rfl⟩
    case round =>
      obtain ⟨p, hp, hgg, rfl, HK⟩ := hrel
      by_cases hlt : p < a0.size
      · have hpl : p < a0.data.toList.length := by rw [HL.out]; exact hlt
        have hx := class_Name.okAll_drop a0.data.toList p p hpl
        have hg : a0.data.toList[p] = a0[p]'hlt := Array.getElem_toList ..
        rw [hg] at hx
        clear hg hpl
        obtain ⟨z, hz⟩ : ∃ z : Nat, z = (a0[p]'hlt).toNat := ⟨_, rfl⟩
        have hfar := fun (ha : ¬ (a0[p]'hlt).toNat < 128) => class_Name.decode_far a0 p hlt ha
        have hnear := fun (ha : (a0[p]'hlt).toNat < 128) => run_next_ascii (P := Tryd.prog) w a0 p 0 hlt ha
        rw [← hz] at hfar hnear
        generalize a0[p]'hlt = bb at hx hz
        have HX := Lib.hid hx
        have HZ := Lib.hid hz
        clear hx hz
        by_cases ha : z < 128
        · have kn := hnear ha
          clear hnear hfar
          by_cases q1 : 97 ≤ (z : Int) ∧ (z : Int) ≤ 122
          · obtain ⟨q1, q2⟩ := q1
            go_wp2_with (first | (go_at_call 41; refine (class_Name.within_any _ 97 122 _).mono ?_; rintro e w' ⟨rfl, rfl⟩) | (go_at_call 42; refine (class_Name.digit_any _ _).mono ?_; rintro e w' ⟨rfl, rfl⟩))
            go_roundg (a0.size - (p + 1))
            case measure => omega
            case rel =>
              refine ⟨p + 1, by omega, by omega, rfl, ?_⟩
              have h1 := HX.out
              rw [class_Name.ok_yes p _ z HZ.out (.inl (by omega)), Bool.true_and] at h1
              exact HK.out.trans h1
          · by_cases hp0 : 0 < p
            · by_cases q2 : 48 ≤ (z : Int) ∧ (z : Int) ≤ 57
              · obtain ⟨q2, q3⟩ := q2
                have q4 : (z : Int) < 97 := by omega
                go_wp2_with (first | (go_at_call 41; refine (class_Name.within_any _ 97 122 _).mono ?_; rintro e w' ⟨rfl, rfl⟩) | (go_at_call 42; refine (class_Name.digit_any _ _).mono ?_; rintro e w' ⟨rfl, rfl⟩))
                go_roundg (a0.size - (p + 1))
                case measure => omega
                case rel =>
                  refine ⟨p + 1, by omega, by omega, rfl, ?_⟩
                  have h1 := HX.out
                  rw [class_Name.ok_yes p _ z HZ.out (.inr (by omega)), Bool.true_and] at h1
                  exact HK.out.trans h1
              · by_cases q3 : (z : Int) = 45
                · have q4 : (z : Int) < 97 := by omega
                  have q5 : (z : Int) < 48 := by omega
                  go_wp2_with (first | (go_at_call 41; refine (class_Name.within_any _ 97 122 _).mono ?_; rintro e w' ⟨rfl, rfl⟩) | (go_at_call 42; refine (class_Name.digit_any _ _).mono ?_; rintro e w' ⟨rfl, rfl⟩))
                  go_roundg (a0.size - (p + 1))
                  case measure => omega
                  case rel =>
                    refine ⟨p + 1, by omega, by omega, rfl, ?_⟩
                    have h1 := HX.out
                    rw [class_Name.ok_yes p _ z HZ.out (.inr (by omega)), Bool.true_and] at h1
                    exact HK.out.trans h1
                · have r1 : (decide (97 ≤ (z : Int)) && decide ((z : Int) ≤ 122)) = false := by simp; omega
                  have r2 : (decide (48 ≤ (z : Int)) && decide ((z : Int) ≤ 57)) = false := by simp; omega
                  have r3 : ((z : Int) == 45) = false := by simpa using q3
                  have NO : Hid (¬ (97 ≤ z ∧ z ≤ 122) ∧ ¬ (0 < p ∧ (48 ≤ z ∧ z ≤ 57 ∨ z = 45))) := Lib.hid (by omega)
                  clear q1 q2 q3
                  go_wp2_with (first | (go_at_call 41; refine (class_Name.within_any _ 97 122 _).mono ?_; rintro e w' ⟨rfl, rfl⟩) | (go_at_call 42; refine (class_Name.digit_any _ _).mono ?_; rintro e w' ⟨rfl, rfl⟩))
                  go_ret
                  refine ⟨class_Name.ret_b ?_, HB.out _⟩
                  have h1 := HX.out
                  rw [class_Name.ok_no p _ z HZ.out NO.out, Bool.false_and] at h1
                  rw [HK.out, h1, Bool.and_false]
                  try rfl
            · have r1 : (decide (97 ≤ (z : Int)) && decide ((z : Int) ≤ 122)) = false := by simp; omega
              obtain rfl : p = 0 := by omega
              have NO : Hid (¬ (97 ≤ z ∧ z ≤ 122) ∧ ¬ (0 < 0 ∧ (48 ≤ z ∧ z ≤ 57 ∨ z = 45))) := Lib.hid (by omega)
              clear q1
              go_wp2_with (first | (go_at_call 41; refine (class_Name.within_any _ 97 122 _).mono ?_; rintro e w' ⟨rfl, rfl⟩) | (go_at_call 42; refine (class_Name.digit_any _ _).mono ?_; rintro e w' ⟨rfl, rfl⟩))
              go_ret
              refine ⟨class_Name.ret_b ?_, HB.out _⟩
              have h1 := HX.out
              rw [class_Name.ok_no 0 _ z HZ.out NO.out, Bool.false_and] at h1
              rw [HK.out, h1, Bool.and_false]
              try rfl
        · obtain ⟨c, n, hd, hc⟩ := hfar ha
          have kn := class_Name.next_far w a0 p 0 hlt c n hd
          clear hnear hfar hd
          have r1 : (decide (97 ≤ (c : Int)) && decide ((c : Int) ≤ 122)) = false := by simp; omega
          have r2 : (decide (48 ≤ (c : Int)) && decide ((c : Int) ≤ 57)) = false := by simp; omega
          have r3 : ((c : Int) == 45) = false := by simp; omega
          have NO : Hid (¬ (97 ≤ z ∧ z ≤ 122) ∧ ¬ (0 < p ∧ (48 ≤ z ∧ z ≤ 57 ∨ z = 45))) := Lib.hid (by omega)
          by_cases hp0 : 0 < p
          · have hp1 : (0 : Int) < (p : Int) := by omega
            clear hc ha
            go_wp2_with (first | (go_at_call 41; refine (class_Name.within_any _ 97 122 _).mono ?_; rintro e w' ⟨rfl, rfl⟩) | (go_at_call 42; refine (class_Name.digit_any _ _).mono ?_; rintro e w' ⟨rfl, rfl⟩))
            go_ret
            refine ⟨class_Name.ret_b ?_, HB.out _⟩
            have h1 := HX.out
            rw [class_Name.ok_no p _ z HZ.out NO.out, Bool.false_and] at h1
            rw [HK.out, h1, Bool.and_false]
            try rfl
          · have hp1 : ¬ (0 : Int) < (p : Int) := by omega
            clear hc ha
            go_wp2_with (first | (go_at_call 41; refine (class_Name.within_any _ 97 122 _).mono ?_; rintro e w' ⟨rfl, rfl⟩) | (go_at_call 42; refine (class_Name.digit_any _ _).mono ?_; rintro e w' ⟨rfl, rfl⟩))
            go_ret
            refine ⟨class_Name.ret_b ?_, HB.out _⟩
            have h1 := HX.out
            rw [class_Name.ok_no p _ z HZ.out NO.out, Bool.false_and] at h1
            rw [HK.out, h1, Bool.and_false]
            try rfl
      · have kn := run_next_end (P := Tryd.prog) w a0 p 0 hlt
        have HLt := Lib.hid hlt
        go_wp2
        go_ret
        refine ⟨class_Name.ret_b ?_, HB.out _⟩
        have h2 := HK.out
        rw [List.drop_of_length_le (by rw [HL.out]; have := HLt.out; omega), class_Name.okAll] at h2
        rw [h2, Bool.and_true]
        show (!a0.toList.isEmpty) = _
        rw [Lib.toList_data, Bool.eq_iff_iff]
        have := HL.out
        simp only [Bool.not_eq_true', decide_eq_true_eq, ← this]
        cases a0.data.toList <;> simp
  · rw [if_neg hs] at h
    cases h

/-! ### decanterref03_Digit: function 43 -/
def decanterref03_Digit.f (a0 : Int) : Option (Bool) := if a0 ≥ 48 then (some (decide (a0 ≤ 57))) else (some false)
set_option maxHeartbeats 8000000 in
set_option maxRecDepth 100000 in
theorem decanterref03_Digit.calls (a0 : Int) (r : Bool) (w : World) (h : decanterref03_Digit.f a0 = some r) :
    Calls Tryd.prog 43 #[.int .i64 a0] w fun e w' => e = .returned (.bool r) ∧ Drawn0 w w' := by
  have H : (if a0 ≥ 48 then (some (decide (a0 ≤ 57))) else (some false)) = some r := h
  clear h
  by_cases c2 : a0 ≥ 48
  · rw [if_pos c2] at H
    have c2b0 : decide (48 ≤ a0) = true := decide_eq_true c2
    clear c2
    obtain rfl := Option.some.inj H
    go_enter Tryd.func43, Tryd.ntmps43
    go_wp2
    go_ret
    exact ⟨by first | rfl | (simp; done) | (simp [*]; done), by repeat (first | exact Drawn0.refl _ | apply Drawn0.step)⟩
  · rw [if_neg c2] at H
    have c2b0 : decide (48 ≤ a0) = false := decide_eq_false c2
    clear c2
    obtain rfl := Option.some.inj H
    go_enter Tryd.func43, Tryd.ntmps43
    go_wp2
    go_ret
    exact ⟨by first | rfl | (simp; done) | (simp [*]; done), by repeat (first | exact Drawn0.refl _ | apply Drawn0.step)⟩

/-! ### decanterref03_Name: function 27 -/
def decanterref03_Name.l0 : Nat → ByteArray → Int → Option (Bool)
  | 0, _, _ => none
  | k + 1, x0, x3 => if x3 < (x0.size : Int) then (if 0 ≤ x3 then (if (wrap64 (bt x0 x3)) ≥ 97 then (if ((wrap64 (bt x0 x3)) ≤ 122) then (decanterref03_Name.l0 k x0 (wrap64 (x3 + 1))) else (if x3 = 0 then (some false) else ((decanterref03_Digit.f (wrap64 (bt x0 x3))).bind fun t112 => (if t112 = true then (decanterref03_Name.l0 k x0 (wrap64 (x3 + 1))) else (if (wrap64 (bt x0 x3)) = 45 then (decanterref03_Name.l0 k x0 (wrap64 (x3 + 1))) else (some false)))))) else (if x3 = 0 then (some false) else ((decanterref03_Digit.f (wrap64 (bt x0 x3))).bind fun t113 => (if t113 = true then (decanterref03_Name.l0 k x0 (wrap64 (x3 + 1))) else (if (wrap64 (bt x0 x3)) = 45 then (decanterref03_Name.l0 k x0 (wrap64 (x3 + 1))) else (some false)))))) else (none)) else (some true)
def decanterref03_Name.f (k : Nat) (a0 : ByteArray) : Option (Bool) := if (a0.size : Int) = 0 then (some false) else (decanterref03_Name.l0 k a0 0)
theorem decanterref03_Name.mono_l : ∀ k, (∀ y0 y1, LeO (decanterref03_Name.l0 k y0 y1) (decanterref03_Name.l0 (k + 1) y0 y1))
  | 0 => fun _ _ r h => by simp [decanterref03_Name.l0] at h
  | k + 1 => by
    have ih0 := decanterref03_Name.mono_l k
    · intro y0 y1
      unfold decanterref03_Name.l0
      repeat' first
      | (with_reducible exact ih0 _ _)
      | (with_reducible exact LeO.refl _)
      | (with_reducible exact LeO.none _)
      | (with_reducible refine LeO.ite ?_ ?_)
      | (with_reducible refine LeO.bind ?_ (fun _ => ?_))
      | exact ih0 _ _
      | exact LeO.none _
      | refine LeO.ite ?_ ?_
      | refine LeO.bind ?_ (fun _ => ?_)
theorem decanterref03_Name.mono : ∀ a0 k, LeO (decanterref03_Name.f k a0) (decanterref03_Name.f (k + 1) a0) := by
  intro a0 k
  have ih0 := decanterref03_Name.mono_l k
  unfold decanterref03_Name.f
  repeat' first
      | (with_reducible exact ih0 _ _)
      | (with_reducible exact LeO.refl _)
      | (with_reducible exact LeO.none _)
      | (with_reducible refine LeO.ite ?_ ?_)
      | (with_reducible refine LeO.bind ?_ (fun _ => ?_))
      | exact ih0 _ _
      | exact LeO.none _
      | refine LeO.ite ?_ ?_
      | refine LeO.bind ?_ (fun _ => ?_)
set_option maxHeartbeats 8000000 in
set_option maxRecDepth 100000 in
theorem decanterref03_Name.calls (k : Nat) (a0 : ByteArray) (r : Bool) (w : World) (h : decanterref03_Name.f k a0 = some r) :
    Calls Tryd.prog 27 #[.string a0] w fun e w' => e = .returned (.bool r) ∧ Drawn0 w w' := by
  have H : (if (a0.size : Int) = 0 then (some false) else (decanterref03_Name.l0 k a0 0)) = some r := h
  clear h
  by_cases c2 : (a0.size : Int) = 0
  · rw [if_pos c2] at H
    have c2b0 : ((a0.size : Int) == 0) = true := beq_iff_eq.mpr c2
    have c2b1 : ((a0.size : Int) != 0) = false := bne_eq_false_iff_eq.mpr c2
    clear c2
    obtain rfl := Option.some.inj H
    go_enter Tryd.func27, Tryd.ntmps27
    go_wp2
    go_ret
    exact ⟨by first | rfl | (simp; done) | (simp [*]; done), by repeat (first | exact Drawn0.refl _ | apply Drawn0.step)⟩
  · rw [if_neg c2] at H
    have c2b0 : ((a0.size : Int) == 0) = false := beq_eq_false_iff_ne.mpr c2
    have c2b1 : ((a0.size : Int) != 0) = true := bne_iff_ne.mpr c2
    have H' := Aside0.mk H
    clear H
    go_enter Tryd.func27, Tryd.ntmps27
    go_wp2
    go_loopg [3] k (fun kq v3 w' => ∃ (x3_1 : Int), v3 = .int .i64 x3_1 ∧ Aside0 (decanterref03_Name.l0 kq a0 x3_1 = some r) ∧ Aside0 (kq ≤ k) ∧ Drawn0 w w')
    case atStart => exact ⟨(0), (by first | rfl | (simp; done) | (simp [*]; done)), H', ⟨Nat.le_refl _⟩, by repeat (first | exact Drawn0.refl _ | apply Drawn0.step)⟩
    case round =>
      clear H'
      try clear c2
      try clear c2b0
      try clear c2b1
      try clear p2
      obtain ⟨x3_1, rfl, HA, HK1, ⟨m1, rfl⟩⟩ := hrel
      cases gk with
      | zero => exact absurd HA.out (by simp [decanterref03_Name.l0])
      | succ k1 =>
        have H := HA.out
        clear HA
        simp only [decanterref03_Name.l0] at H
        by_cases c3 : x3_1 < (a0.size : Int)
        · rw [if_pos c3] at H
          have c3b0 : decide (x3_1 < (a0.size : Int)) = true := decide_eq_true c3
          clear c3
          by_cases c4 : 0 ≤ x3_1
          · rw [if_pos c4] at H
            have c4b0 : decide (0 ≤ x3_1) = true := decide_eq_true c4
            clear c4
            by_cases c6 : (wrap64 (bt a0 x3_1)) ≥ 97
            · rw [if_pos c6] at H
              have c6b0 : decide (97 ≤ (wrap64 (bt a0 x3_1))) = true := decide_eq_true c6
              clear c6
              by_cases c7 : ((wrap64 (bt a0 x3_1)) ≤ 122)
              · rw [if_pos c7] at H
                have c7b0 : decide ((wrap64 (bt a0 x3_1)) ≤ 122) = true := decide_eq_true c7
                clear c7
                have H' := Aside0.mk H
                clear H
                have p5 : 0 ≤ (x3_1 : Int) := of_decide_eq_true (by first | (with_reducible assumption) | assumption)
                have q5 : x3_1 < (a0.size : Int) := of_decide_eq_true (by first | (with_reducible assumption) | assumption)
                have hx5 := bt_at a0 x3_1
                replace p5 := eq_true p5
                replace q5 := eq_true q5
                go_wp2
                go_roundg k1
                case measure => have := HK1.out; omega
                case rel => exact ⟨(wrap64 (x3_1 + 1)), (by first | rfl | (simp; done) | (simp [*]; done)), H', ⟨by have := HK1.out; omega⟩, by repeat (first | exact Drawn0.refl _ | apply Drawn0.step)⟩
              · rw [if_neg c7] at H
                have c7b0 : decide ((wrap64 (bt a0 x3_1)) ≤ 122) = false := decide_eq_false c7
                clear c7
                by_cases c8 : x3_1 = 0
                · rw [if_pos c8] at H
                  have c8b0 : (x3_1 == 0) = true := beq_iff_eq.mpr c8
                  have c8b1 : (x3_1 != 0) = false := bne_eq_false_iff_eq.mpr c8
                  clear c8
                  obtain rfl := Option.some.inj H
                  have p5 : 0 ≤ (x3_1 : Int) := of_decide_eq_true (by first | (with_reducible assumption) | assumption)
                  have q5 : x3_1 < (a0.size : Int) := of_decide_eq_true (by first | (with_reducible assumption) | assumption)
                  have hx5 := bt_at a0 x3_1
                  replace p5 := eq_true p5
                  replace q5 := eq_true q5
                  go_wp2
                  go_ret
                  exact ⟨by first | rfl | (simp; done) | (simp [*]; done), by repeat (first | exact Drawn0.refl _ | apply Drawn0.step)⟩
                · rw [if_neg c8] at H
                  have c8b0 : (x3_1 == 0) = false := beq_eq_false_iff_ne.mpr c8
                  have c8b1 : (x3_1 != 0) = true := bne_iff_ne.mpr c8
                  replace H := Option.bind_eq_some_iff.mp H
                  obtain ⟨t112, A90, H⟩ := H
                  replace H : (if t112 = true then (decanterref03_Name.l0 k1 a0 (wrap64 (x3_1 + 1))) else (if (wrap64 (bt a0 x3_1)) = 45 then (decanterref03_Name.l0 k1 a0 (wrap64 (x3_1 + 1))) else (some false))) = some r := H
                  have A9 := Aside0.mk A90
                  clear A90
                  by_cases c10 : t112 = true
                  · subst c10
                    have H1 : (decanterref03_Name.l0 k1 a0 (wrap64 (x3_1 + 1))) = some r := by rw [if_pos rfl] at H; exact H
                    clear H
                    have H := H1
                    clear H1
                    have H' := Aside0.mk H
                    clear H
                    have p5 : 0 ≤ (x3_1 : Int) := of_decide_eq_true (by first | (with_reducible assumption) | assumption)
                    have q5 : x3_1 < (a0.size : Int) := of_decide_eq_true (by first | (with_reducible assumption) | assumption)
                    have hx5 := bt_at a0 x3_1
                    replace p5 := eq_true p5
                    replace q5 := eq_true q5
                    go_wp2_with (first | (go_at_call 43; (with_reducible refine (decanterref03_Digit.calls (wrap64 (bt a0 x3_1)) true _ A9.out).mono ?_); rintro e w' ⟨rfl, ⟨nd, rfl⟩⟩))
                    go_roundg k1
                    case measure => have := HK1.out; omega
                    case rel => exact ⟨(wrap64 (x3_1 + 1)), (by first | rfl | (simp; done) | (simp [*]; done)), H', ⟨by have := HK1.out; omega⟩, by repeat (first | exact Drawn0.refl _ | apply Drawn0.step)⟩
                  · replace c10 := Bool.eq_false_iff.mpr c10
                    subst c10
                    have H1 : (if (wrap64 (bt a0 x3_1)) = 45 then (decanterref03_Name.l0 k1 a0 (wrap64 (x3_1 + 1))) else (some false)) = some r := by rw [if_neg (show ¬ (false = true) by decide)] at H; exact H
                    clear H
                    have H := H1
                    clear H1
                    by_cases c11 : (wrap64 (bt a0 x3_1)) = 45
                    · rw [if_pos c11] at H
                      have c11b0 : ((wrap64 (bt a0 x3_1)) == 45) = true := beq_iff_eq.mpr c11
                      have c11b1 : ((wrap64 (bt a0 x3_1)) != 45) = false := bne_eq_false_iff_eq.mpr c11
                      clear c11
                      have H' := Aside0.mk H
                      clear H
                      have p5 : 0 ≤ (x3_1 : Int) := of_decide_eq_true (by first | (with_reducible assumption) | assumption)
                      have q5 : x3_1 < (a0.size : Int) := of_decide_eq_true (by first | (with_reducible assumption) | assumption)
                      have hx5 := bt_at a0 x3_1
                      replace p5 := eq_true p5
                      replace q5 := eq_true q5
                      go_wp2_with (first | (go_at_call 43; (with_reducible refine (decanterref03_Digit.calls (wrap64 (bt a0 x3_1)) false _ A9.out).mono ?_); rintro e w' ⟨rfl, ⟨nd, rfl⟩⟩))
                      go_roundg k1
                      case measure => have := HK1.out; omega
                      case rel => exact ⟨(wrap64 (x3_1 + 1)), (by first | rfl | (simp; done) | (simp [*]; done)), H', ⟨by have := HK1.out; omega⟩, by repeat (first | exact Drawn0.refl _ | apply Drawn0.step)⟩
                    · rw [if_neg c11] at H
                      have c11b0 : ((wrap64 (bt a0 x3_1)) == 45) = false := beq_eq_false_iff_ne.mpr c11
                      have c11b1 : ((wrap64 (bt a0 x3_1)) != 45) = true := bne_iff_ne.mpr c11
                      obtain rfl := Option.some.inj H
                      have p5 : 0 ≤ (x3_1 : Int) := of_decide_eq_true (by first | (with_reducible assumption) | assumption)
                      have q5 : x3_1 < (a0.size : Int) := of_decide_eq_true (by first | (with_reducible assumption) | assumption)
                      have hx5 := bt_at a0 x3_1
                      replace p5 := eq_true p5
                      replace q5 := eq_true q5
                      go_wp2_with (first | (go_at_call 43; (with_reducible refine (decanterref03_Digit.calls (wrap64 (bt a0 x3_1)) false _ A9.out).mono ?_); rintro e w' ⟨rfl, ⟨nd, rfl⟩⟩))
                      go_ret
                      exact ⟨by first | rfl | (simp; done) | (simp [*]; done), by repeat (first | exact Drawn0.refl _ | apply Drawn0.step)⟩
            · rw [if_neg c6] at H
              have c6b0 : decide (97 ≤ (wrap64 (bt a0 x3_1))) = false := decide_eq_false c6
              clear c6
              by_cases c12 : x3_1 = 0
              · rw [if_pos c12] at H
                have c12b0 : (x3_1 == 0) = true := beq_iff_eq.mpr c12
                have c12b1 : (x3_1 != 0) = false := bne_eq_false_iff_eq.mpr c12
                clear c12
                obtain rfl := Option.some.inj H
                have p5 : 0 ≤ (x3_1 : Int) := of_decide_eq_true (by first | (with_reducible assumption) | assumption)
                have q5 : x3_1 < (a0.size : Int) := of_decide_eq_true (by first | (with_reducible assumption) | assumption)
                have hx5 := bt_at a0 x3_1
                replace p5 := eq_true p5
                replace q5 := eq_true q5
                go_wp2
                go_ret
                exact ⟨by first | rfl | (simp; done) | (simp [*]; done), by repeat (first | exact Drawn0.refl _ | apply Drawn0.step)⟩
              · rw [if_neg c12] at H
                have c12b0 : (x3_1 == 0) = false := beq_eq_false_iff_ne.mpr c12
                have c12b1 : (x3_1 != 0) = true := bne_iff_ne.mpr c12
                replace H := Option.bind_eq_some_iff.mp H
                obtain ⟨t113, A130, H⟩ := H
                replace H : (if t113 = true then (decanterref03_Name.l0 k1 a0 (wrap64 (x3_1 + 1))) else (if (wrap64 (bt a0 x3_1)) = 45 then (decanterref03_Name.l0 k1 a0 (wrap64 (x3_1 + 1))) else (some false))) = some r := H
                have A13 := Aside0.mk A130
                clear A130
                by_cases c14 : t113 = true
                · subst c14
                  have H1 : (decanterref03_Name.l0 k1 a0 (wrap64 (x3_1 + 1))) = some r := by rw [if_pos rfl] at H; exact H
                  clear H
                  have H := H1
                  clear H1
                  have H' := Aside0.mk H
                  clear H
                  have p5 : 0 ≤ (x3_1 : Int) := of_decide_eq_true (by first | (with_reducible assumption) | assumption)
                  have q5 : x3_1 < (a0.size : Int) := of_decide_eq_true (by first | (with_reducible assumption) | assumption)
                  have hx5 := bt_at a0 x3_1
                  replace p5 := eq_true p5
                  replace q5 := eq_true q5
                  go_wp2_with (first | (go_at_call 43; (with_reducible refine (decanterref03_Digit.calls (wrap64 (bt a0 x3_1)) true _ A13.out).mono ?_); rintro e w' ⟨rfl, ⟨nd, rfl⟩⟩))
                  go_roundg k1
                  case measure => have := HK1.out; omega
                  case rel => exact ⟨(wrap64 (x3_1 + 1)), (by first | rfl | (simp; done) | (simp [*]; done)), H', ⟨by have := HK1.out; omega⟩, by repeat (first | exact Drawn0.refl _ | apply Drawn0.step)⟩
                · replace c14 := Bool.eq_false_iff.mpr c14
                  subst c14
                  have H1 : (if (wrap64 (bt a0 x3_1)) = 45 then (decanterref03_Name.l0 k1 a0 (wrap64 (x3_1 + 1))) else (some false)) = some r := by rw [if_neg (show ¬ (false = true) by decide)] at H; exact H
                  clear H
                  have H := H1
                  clear H1
                  by_cases c15 : (wrap64 (bt a0 x3_1)) = 45
                  · rw [if_pos c15] at H
                    have c15b0 : ((wrap64 (bt a0 x3_1)) == 45) = true := beq_iff_eq.mpr c15
                    have c15b1 : ((wrap64 (bt a0 x3_1)) != 45) = false := bne_eq_false_iff_eq.mpr c15
                    clear c15
                    have H' := Aside0.mk H
                    clear H
                    have p5 : 0 ≤ (x3_1 : Int) := of_decide_eq_true (by first | (with_reducible assumption) | assumption)
                    have q5 : x3_1 < (a0.size : Int) := of_decide_eq_true (by first | (with_reducible assumption) | assumption)
                    have hx5 := bt_at a0 x3_1
                    replace p5 := eq_true p5
                    replace q5 := eq_true q5
                    go_wp2_with (first | (go_at_call 43; (with_reducible refine (decanterref03_Digit.calls (wrap64 (bt a0 x3_1)) false _ A13.out).mono ?_); rintro e w' ⟨rfl, ⟨nd, rfl⟩⟩))
                    go_roundg k1
                    case measure => have := HK1.out; omega
                    case rel => exact ⟨(wrap64 (x3_1 + 1)), (by first | rfl | (simp; done) | (simp [*]; done)), H', ⟨by have := HK1.out; omega⟩, by repeat (first | exact Drawn0.refl _ | apply Drawn0.step)⟩
                  · rw [if_neg c15] at H
                    have c15b0 : ((wrap64 (bt a0 x3_1)) == 45) = false := beq_eq_false_iff_ne.mpr c15
                    have c15b1 : ((wrap64 (bt a0 x3_1)) != 45) = true := bne_iff_ne.mpr c15
                    obtain rfl := Option.some.inj H
                    have p5 : 0 ≤ (x3_1 : Int) := of_decide_eq_true (by first | (with_reducible assumption) | assumption)
                    have q5 : x3_1 < (a0.size : Int) := of_decide_eq_true (by first | (with_reducible assumption) | assumption)
                    have hx5 := bt_at a0 x3_1
                    replace p5 := eq_true p5
                    replace q5 := eq_true q5
                    go_wp2_with (first | (go_at_call 43; (with_reducible refine (decanterref03_Digit.calls (wrap64 (bt a0 x3_1)) false _ A13.out).mono ?_); rintro e w' ⟨rfl, ⟨nd, rfl⟩⟩))
                    go_ret
                    exact ⟨by first | rfl | (simp; done) | (simp [*]; done), by repeat (first | exact Drawn0.refl _ | apply Drawn0.step)⟩
          · rw [if_neg c4] at H
            exact absurd H (by simp)
        · rw [if_neg c3] at H
          have c3b0 : decide (x3_1 < (a0.size : Int)) = false := decide_eq_false c3
          clear c3
          obtain rfl := Option.some.inj H
          go_wp2
          go_ret
          exact ⟨by first | rfl | (simp; done) | (simp [*]; done), by repeat (first | exact Drawn0.refl _ | apply Drawn0.step)⟩

end Go.Proofs.YtinjbabmpnljoaaDoor.PClassT
