-- Laid by a program of this session (tools/patch_print.py) out of the translation. Not trusted: Lean checks it.
import Derived.Test.YtnmjocoopbfpnaaDoorPRefAx0
import Derived.Test.YtnmjocoopbfpnaaDoorPRefAx1
import Derived.Test.YtnmjocoopbfpnaaDoorPRefAx2
namespace Go.Proofs.YtnmjocoopbfpnaaDoor.PRefA
open Go.RowKit Go.Proofs.YtnmjocoopbfpnaaDoorW.PrintWords Go.Proofs.YtnmjocoopbfpnaaDoorW.PrintLast Go.Proofs.YtnmjocoopbfpnaaDoorW.PrintMore
attribute [local go_sem] max2_int min2_int max_two min_two max_three min_three max_four min_four   -- for this text's walks alone
set_option linter.unusedVariables false
set_option linter.unusedSimpArgs false

/-! ### ref_Read: function 22 -/
mutual
def ref_Read.j0 : Nat → List Int → Int → Bool → Bool → Option (ByteArray × Int × Bool)
  | 0, _, _, _, _ => none
  | k + 1, x0, x1, x2, x27 => if x27 = true then (some ((⟨#[]⟩ : ByteArray), 0, false)) else (if 0 ≤ (wrap64 (x1 + 1)) then (if (wrap64 (x1 + 1)) ≤ (x0.length : Int) then (if ((x0.drop ((wrap64 (x1 + 1)) : Int).toNat).length : Int) > 0 then (if 0 < ((x0.drop ((wrap64 (x1 + 1)) : Int).toNat).length : Int) then (ref_Read.j1 k x1 x2 (x0.drop ((wrap64 (x1 + 1)) : Int).toNat) 1 ((rd (x0.drop ((wrap64 (x1 + 1)) : Int).toNat) 0) == 35)) else (none)) else (ref_Read.j1 k x1 x2 (x0.drop ((wrap64 (x1 + 1)) : Int).toNat) 1 false)) else (none)) else (none))
def ref_Read.j1 : Nat → Int → Bool → List Int → Int → Bool → Option (ByteArray × Int × Bool)
  | 0, _, _, _, _, _ => none
  | k + 1, x1, x2, x9, x10, x40 => if x40 = true then (if 1 ≤ (x9.length : Int) then ((ref_number.f k (x9.drop 1)).bind fun bt133 => (if bt133.2 = 0 then (some ((⟨#[]⟩ : ByteArray), 0, false)) else (some (bt133.1, wrap64 ((wrap64 (x1 + 2)) + bt133.2), true)))) else (none)) else ((ref_name.f k x9 x2).bind fun bt135 => (if bt135.2 = 0 then (some ((⟨#[]⟩ : ByteArray), 0, false)) else (some (bt135.1, wrap64 ((wrap64 (x1 + x10)) + bt135.2), true))))
end
def ref_Read.f (k : Nat) (l0 : List Int) (a1 : Int) (a2 : Bool) : Option (ByteArray × Int × Bool) := if a1 < 0 then (ref_Read.j0 k l0 a1 a2 true) else (if a1 ≥ (l0.length : Int) then (ref_Read.j0 k l0 a1 a2 true) else (if 0 ≤ a1 then (if a1 < (l0.length : Int) then (ref_Read.j0 k l0 a1 a2 ((rd l0 a1) != 38)) else (none)) else (none)))
theorem ref_Read.mono_l : ∀ k, (∀ y0 y1 y2 y3, LeO (ref_Read.j0 k y0 y1 y2 y3) (ref_Read.j0 (k + 1) y0 y1 y2 y3)) ∧ (∀ y0 y1 y2 y3 y4, LeO (ref_Read.j1 k y0 y1 y2 y3 y4) (ref_Read.j1 (k + 1) y0 y1 y2 y3 y4))
  | 0 => ⟨fun _ _ _ _ r h => by simp [ref_Read.j0] at h, fun _ _ _ _ _ r h => by simp [ref_Read.j1] at h⟩
  | k + 1 => by
    obtain ⟨ih0, ih1⟩ := ref_Read.mono_l k
    refine ⟨?_, ?_⟩
    · intro y0 y1 y2 y3
      unfold ref_Read.j0
      repeat' first
      | (with_reducible exact ih0 _ _ _ _)
      | (with_reducible exact ih1 _ _ _ _ _)
      | (with_reducible exact ref_name.mono _ _ _)
      | (with_reducible exact ref_number.mono _ _)
      | (with_reducible exact LeO.refl _)
      | (with_reducible exact LeO.none _)
      | (with_reducible refine LeO.ite ?_ ?_)
      | (with_reducible refine LeO.bind ?_ (fun _ => ?_))
      | exact ih0 _ _ _ _
      | exact ih1 _ _ _ _ _
      | exact ref_name.mono _ _ _
      | exact ref_number.mono _ _
      | exact LeO.none _
      | refine LeO.ite ?_ ?_
      | refine LeO.bind ?_ (fun _ => ?_)
    · intro y0 y1 y2 y3 y4
      unfold ref_Read.j1
      repeat' first
      | (with_reducible exact ih0 _ _ _ _)
      | (with_reducible exact ih1 _ _ _ _ _)
      | (with_reducible exact ref_name.mono _ _ _)
      | (with_reducible exact ref_number.mono _ _)
      | (with_reducible exact LeO.refl _)
      | (with_reducible exact LeO.none _)
      | (with_reducible refine LeO.ite ?_ ?_)
      | (with_reducible refine LeO.bind ?_ (fun _ => ?_))
      | exact ih0 _ _ _ _
      | exact ih1 _ _ _ _ _
      | exact ref_name.mono _ _ _
      | exact ref_number.mono _ _
      | exact LeO.none _
      | refine LeO.ite ?_ ?_
      | refine LeO.bind ?_ (fun _ => ?_)
theorem ref_Read.mono : ∀ a0 a1 a2 k, LeO (ref_Read.f k a0 a1 a2) (ref_Read.f (k + 1) a0 a1 a2) := by
  intro a0 a1 a2 k
  obtain ⟨ih0, ih1⟩ := ref_Read.mono_l k
  unfold ref_Read.f
  repeat' first
      | (with_reducible exact ih0 _ _ _ _)
      | (with_reducible exact ih1 _ _ _ _ _)
      | (with_reducible exact ref_name.mono _ _ _)
      | (with_reducible exact ref_number.mono _ _)
      | (with_reducible exact LeO.refl _)
      | (with_reducible exact LeO.none _)
      | (with_reducible refine LeO.ite ?_ ?_)
      | (with_reducible refine LeO.bind ?_ (fun _ => ?_))
      | exact ih0 _ _ _ _
      | exact ih1 _ _ _ _ _
      | exact ref_name.mono _ _ _
      | exact ref_number.mono _ _
      | exact LeO.none _
      | refine LeO.ite ?_ ?_
      | refine LeO.bind ?_ (fun _ => ?_)
set_option maxHeartbeats 8000000 in
set_option maxRecDepth 100000 in
theorem ref_Read.calls (k : Nat) (A0 : Option Addr) (c0 : Nat) (l0 : List Int) (a1 : Int) (a2 : Bool) (r1 : ByteArray) (r2 : Int) (r3 : Bool) (w : World) (hW : Wok w) (hr0 : Kd.C (Kd.int .u8) w A0 l0.length l0) (hc0 : l0.length ≤ c0) (h : ref_Read.f k l0 a1 a2 = some (r1, r2, r3)) :
    Calls Tryd.prog 22 #[.slice A0 l0.length c0, .int .i64 a1, .bool a2] w fun e w' => e = .returned (.tuple #[.string r1, .int .i64 r2, .bool r3]) ∧ Below w.heap.size w w' := by
  have HR0 := Aside0.mk hr0
  have HC0 := Aside0.mk hc0
  clear hr0 hc0
  have HB := Aside0.mk (Below.refl w.heap.size w)
  have H : (if a1 < 0 then (ref_Read.j0 k l0 a1 a2 true) else (if a1 ≥ (l0.length : Int) then (ref_Read.j0 k l0 a1 a2 true) else (if 0 ≤ a1 then (if a1 < (l0.length : Int) then (ref_Read.j0 k l0 a1 a2 ((rd l0 a1) != 38)) else (none)) else (none)))) = some (r1, r2, r3) := h
  clear h
  have HC4 := Aside0.mk H
  clear H
  go_enter Tryd.func22, Tryd.ntmps22
  go_upto_region 1 with (fail)
  go_cut [27] (fun v27 wc => ∃ (kq : Nat) (x27_3 : Bool), v27 = .bool x27_3 ∧ Aside0 (ref_Read.j0 kq l0 a1 a2 x27_3 = some (r1, r2, r3)) ∧ Aside0 (kq ≤ k) ∧ Aside0 (Below w.heap.size w wc))
  case first =>
    have H := HC4.out
    clear HC4
    by_cases c5 : a1 < 0
    · rw [if_pos c5] at H
      have c5b0 : decide (a1 < 0) = true := decide_eq_true c5
      clear c5
      (first | rw [c5b0] | (simp only [i64_w, i32_w]; rw [c5b0]) | skip)
      have H' := Aside0.mk H
      clear H
      go_wp2
      go_meet
      case rel => exact ⟨_, (true), (by first | rfl | (simp; done) | (simp [*]; done)), H', ⟨by first | omega | exact Nat.le_refl _⟩, ⟨by repeat (first | (with_reducible first | exact HB.out | apply below_alloc | apply pw_below_drewN | apply below_drew1) | exact HB.out)⟩⟩
    · rw [if_neg c5] at H
      have c5b0 : decide (a1 < 0) = false := decide_eq_false c5
      clear c5
      (first | rw [c5b0] | (simp only [i64_w, i32_w]; rw [c5b0]) | skip)
      by_cases c6 : a1 ≥ (l0.length : Int)
      · rw [if_pos c6] at H
        have c6b0 : decide ((l0.length : Int) ≤ a1) = true := decide_eq_true c6
        clear c6
        have H' := Aside0.mk H
        clear H
        go_wp2
        go_meet
        case rel => exact ⟨_, (true), (by first | rfl | (simp; done) | (simp [*]; done)), H', ⟨by first | omega | exact Nat.le_refl _⟩, ⟨by repeat (first | (with_reducible first | exact HB.out | apply below_alloc | apply pw_below_drewN | apply below_drew1) | exact HB.out)⟩⟩
      · rw [if_neg c6] at H
        have c6b0 : decide ((l0.length : Int) ≤ a1) = false := decide_eq_false c6
        clear c6
        by_cases c7 : 0 ≤ a1
        · rw [if_pos c7] at H
          have c7b0 : decide (0 ≤ a1) = true := decide_eq_true c7
          clear c7
          by_cases c8 : a1 < (l0.length : Int)
          · rw [if_pos c8] at H
            have c8b0 : decide (a1 < (l0.length : Int)) = true := decide_eq_true c8
            clear c8
            have H' := Aside0.mk H
            clear H
            have p129 : 0 ≤ (a1 : Int) := of_decide_eq_true (by first | (with_reducible assumption) | assumption)
            have q129 : a1 < (l0.length : Int) := of_decide_eq_true (by first | (with_reducible assumption) | assumption)
            obtain ⟨ad129, e129, hx129_0⟩ := Kd.at_int HR0.out a1 p129 q129
            cases e129
            replace hx129_0 := (HB.out.cell (World.block_lt_of_cell? w _ hx129_0)).trans hx129_0
            replace p129 := eq_true p129
            replace q129 := eq_true q129
            go_wp2
            go_meet
            case rel => exact ⟨_, (((rd l0 a1) != 38)), (by first | rfl | (simp; done) | (simp [*]; done)), H', ⟨by first | omega | exact Nat.le_refl _⟩, ⟨by repeat (first | (with_reducible first | exact HB.out | apply below_alloc | apply pw_below_drewN | apply below_drew1) | exact HB.out)⟩⟩
          · rw [if_neg c8] at H
            exact absurd H (by simp)
        · rw [if_neg c7] at H
          exact absurd H (by simp)
  case rest =>
    clear HC4
    try clear p1
    try clear q1
    try clear hx1
    try clear c2
    try clear p2
    try clear c5
    try clear c5b0
    try clear c6
    try clear c6b0
    try clear c7
    try clear c7b0
    try clear c8
    try clear c8b0
    try clear hx129_0
    try clear p129
    try clear q129
    obtain ⟨kq, x27_3, rfl, HA, HJ3, HB⟩ := hcut
    cases kq with
    | zero => exact absurd HA.out (by simp [ref_Read.j0])
    | succ kj3 =>
      have H := HA.out
      clear HA
      simp only [ref_Read.j0] at H
      by_cases c9 : x27_3 = true
      · subst c9
        have H1 : (some ((⟨#[]⟩ : ByteArray), 0, false)) = some (r1, r2, r3) := by rw [if_pos rfl] at H; exact H
        clear H
        have H := H1
        clear H1
        simp only [Option.some.injEq, Prod.mk.injEq] at H
        obtain ⟨rfl, rfl, rfl⟩ := H
        go_wp2
        go_ret3
        exact ⟨by first | rfl | (simp [errW_none, errW_some] <;> rfl) | (simp [*, errW_none, errW_some] <;> rfl), by repeat (first | (with_reducible first | exact HB.out | apply below_alloc | apply pw_below_drewN | apply below_drew1) | exact HB.out)⟩
      · replace c9 := Bool.eq_false_iff.mpr c9
        subst c9
        have H1 : (if 0 ≤ (wrap64 (a1 + 1)) then (if (wrap64 (a1 + 1)) ≤ (l0.length : Int) then (if ((l0.drop ((wrap64 (a1 + 1)) : Int).toNat).length : Int) > 0 then (if 0 < ((l0.drop ((wrap64 (a1 + 1)) : Int).toNat).length : Int) then (ref_Read.j1 kj3 a1 a2 (l0.drop ((wrap64 (a1 + 1)) : Int).toNat) 1 ((rd (l0.drop ((wrap64 (a1 + 1)) : Int).toNat) 0) == 35)) else (none)) else (ref_Read.j1 kj3 a1 a2 (l0.drop ((wrap64 (a1 + 1)) : Int).toNat) 1 false)) else (none)) else (none)) = some (r1, r2, r3) := by rw [if_neg (show ¬ (false = true) by decide)] at H; exact H
        clear H
        have H := H1
        clear H1
        obtain ⟨ji10, hji10⟩ : ∃ j_ : Int, (wrap64 (a1 + 1)) = j_ := ⟨_, rfl⟩
        replace H : (if 0 ≤ (ji10) then (if (ji10) ≤ (l0.length : Int) then (if ((l0.drop ((ji10) : Int).toNat).length : Int) > 0 then (if 0 < ((l0.drop ((ji10) : Int).toNat).length : Int) then (ref_Read.j1 kj3 a1 a2 (l0.drop ((ji10) : Int).toNat) 1 ((rd (l0.drop ((ji10) : Int).toNat) 0) == 35)) else (none)) else (ref_Read.j1 kj3 a1 a2 (l0.drop ((ji10) : Int).toNat) 1 false)) else (none)) else (none)) = some (r1, r2, r3) := by first | (rw [hji10] at H; exact H) | (simp only [hji10] at H ⊢; exact H)
        have hji10w : (IntKind.i64.wrap (a1 + 1)) = ji10 := (i64_w _).trans hji10
        by_cases c11 : 0 ≤ (ji10)
        · rw [if_pos c11] at H
          have c11b0 := eq_true c11
          have c11b1 : decide (0 ≤ (ji10)) = true := decide_eq_true c11
          clear c11
          by_cases c12 : (ji10) ≤ (l0.length : Int)
          · rw [if_pos c12] at H
            have c12b0 := eq_true c12
            have c12b1 : decide ((ji10) ≤ (l0.length : Int)) = true := decide_eq_true c12
            clear c12
            have HC13 := Aside0.mk H
            clear H
            obtain ⟨i014, hi014, _, hsz14, _⟩ := info_parts info5
            obtain ⟨A14, hcut14, hA14, hC14⟩ := print_drop_of (P := Tryd.prog) (Value.int .u8) 0 37 5 .i64 Tryd.underlying37 hi014 hsz14 A0 c0 l0 (ji10) (of_decide_eq_true (by first | (with_reducible assumption) | assumption)) (of_decide_eq_true (by first | (with_reducible assumption) | assumption)) HC0.out
            have HR130 := Aside0.mk (Kd.C_of_reads (h1 := fun _ => rfl) (hA14 _ (Kd.reads_of_C HR0.out)))
            have HC130 := Aside0.mk hC14
            clear hA14 hC14 hi014 hsz14
            generalize (l0.drop ((ji10) : Int).toNat) = D14 at *
            go_upto_region 5 with (fail)
            go_cut [40] (fun v40 wc => ∃ (kq : Nat) (x40_12 : Bool), v40 = .bool x40_12 ∧ Aside0 (ref_Read.j1 kq a1 a2 D14 1 x40_12 = some (r1, r2, r3)) ∧ Aside0 (kq ≤ kj3) ∧ Aside0 (Below w.heap.size w wc))
            case first =>
              have H := HC13.out
              clear HC13
              by_cases c15 : (D14.length : Int) > 0
              · rw [if_pos c15] at H
                have c15b0 : decide (0 < (D14.length : Int)) = true := decide_eq_true c15
                have c15b1 : decide (0 < D14.length) = true := decide_eq_true (by omega)
                clear c15
                (first | rw [c15b0] | (simp only [i64_w, i32_w]; rw [c15b0]) | skip)
                by_cases c16 : 0 < (D14.length : Int)
                · rw [if_pos c16] at H
                  have c16b0 : decide (0 < (D14.length : Int)) = true := decide_eq_true c16
                  have c16b1 : decide (0 < D14.length) = true := decide_eq_true (by omega)
                  clear c16
                  have H' := Aside0.mk H
                  clear H
                  have p131 : 0 ≤ (0 : Int) := (by omega)
                  have q131 : 0 < (D14.length : Int) := of_decide_eq_true (by first | (with_reducible assumption) | assumption)
                  obtain ⟨ad131, e131, hx131_0⟩ := Kd.at_int HR130.out 0 p131 q131
                  cases e131
                  have qi131 : (0 < D14.length) = True := eq_true (by omega)
                  (try rw [show ((0 : Int)).toNat = 0 from rfl] at hx131_0)
                  (try rw [Addr.add_zero'] at hx131_0)
                  replace hx131_0 := (HB.out.cell (World.block_lt_of_cell? w _ hx131_0)).trans hx131_0
                  replace p131 := eq_true p131
                  replace q131 := eq_true q131
                  go_wp2
                  go_meet
                  case rel => exact ⟨_, (((rd D14 0) == 35)), (by first | rfl | (simp; done) | (simp only [← hji10] <;> (first | rfl | simp)) | (simp [*]; done)), H', ⟨by have := HJ3.out; first | omega | exact Nat.le_refl _⟩, ⟨by repeat (first | (with_reducible first | exact HB.out | apply below_alloc | apply pw_below_drewN | apply below_drew1) | exact HB.out)⟩⟩
                · rw [if_neg c16] at H
                  exact absurd H (by simp)
              · rw [if_neg c15] at H
                have c15b0 : decide (0 < (D14.length : Int)) = false := decide_eq_false c15
                have c15b1 : decide (0 < D14.length) = false := decide_eq_false (by omega)
                clear c15
                (first | rw [c15b0] | (simp only [i64_w, i32_w]; rw [c15b0]) | skip)
                have H' := Aside0.mk H
                clear H
                go_wp2
                go_meet
                case rel => exact ⟨_, (false), (by first | rfl | (simp; done) | (simp [*]; done)), H', ⟨by have := HJ3.out; first | omega | exact Nat.le_refl _⟩, ⟨by repeat (first | (with_reducible first | exact HB.out | apply below_alloc | apply pw_below_drewN | apply below_drew1) | exact HB.out)⟩⟩
            case rest =>
              clear HC13
              try clear c1
              try clear p1
              try clear q1
              try clear hx1
              try clear qi1
              try clear c2
              try clear p2
              try clear c5
              try clear c5b0
              try clear c6
              try clear c6b0
              try clear p6
              try clear c7
              try clear c7b0
              try clear c8
              try clear c8b0
              try clear c9
              try clear c11
              try clear c11b0
              try clear c11b1
              try clear c12
              try clear c12b0
              try clear c12b1
              try clear p12
              try clear q12
              try clear hx12
              try clear p13
              try clear q13
              try clear hx13
              try clear qi13
              try clear c15
              try clear c15b0
              try clear c15b1
              try clear c16
              try clear c16b0
              try clear c16b1
              try clear hx129_0
              try clear hx131_0
              try clear p1
              try clear p129
              try clear p131
              try clear p2
              try clear q1
              try clear q129
              try clear q131
              obtain ⟨kq, x40_12, rfl, HA, HJ12, HB⟩ := hcut
              cases kq with
              | zero => exact absurd HA.out (by simp [ref_Read.j1])
              | succ kj12 =>
                have H := HA.out
                clear HA
                simp only [ref_Read.j1] at H
                by_cases c17 : x40_12 = true
                · subst c17
                  have H1 : (if 1 ≤ (D14.length : Int) then ((ref_number.f kj12 (D14.drop 1)).bind fun bt133 => (if bt133.2 = 0 then (some ((⟨#[]⟩ : ByteArray), 0, false)) else (some (bt133.1, wrap64 ((wrap64 (a1 + 2)) + bt133.2), true)))) else (none)) = some (r1, r2, r3) := by rw [if_pos rfl] at H; exact H
                  clear H
                  have H := H1
                  clear H1
                  by_cases c18 : 1 ≤ (D14.length : Int)
                  · rw [if_pos c18] at H
                    have c18b0 := eq_true c18
                    have c18b1 : decide (1 ≤ (D14.length : Int)) = true := decide_eq_true c18
                    clear c18
                    replace H := Option.bind_eq_some_iff.mp H
                    obtain ⟨⟨t133, t134⟩, A190, H⟩ := H
                    replace H : (if t134 = 0 then (some ((⟨#[]⟩ : ByteArray), 0, false)) else (some (t133, wrap64 ((wrap64 (a1 + 2)) + t134), true))) = some (r1, r2, r3) := H
                    have A19 := Aside0.mk A190
                    clear A190
                    by_cases c20 : t134 = 0
                    · rw [if_pos c20] at H
                      have c20b0 : (t134 == 0) = true := beq_iff_eq.mpr c20
                      have c20b1 : (t134 != 0) = false := bne_eq_false_iff_eq.mpr c20
                      clear c20
                      simp only [Option.some.injEq, Prod.mk.injEq] at H
                      obtain ⟨rfl, rfl, rfl⟩ := H
                      obtain ⟨i021, hi021, _, hsz21, _⟩ := info_parts info5
                      obtain ⟨A21, hcut21, hA21, hC21⟩ := print_drop_of (P := Tryd.prog) (Value.int .u8) 0 37 5 .i64 Tryd.underlying37 hi021 hsz21 A14 (c0 - (ji10).toNat) D14 1 (by omega) (of_decide_eq_true (by first | (with_reducible assumption) | assumption)) HC130.out
                      have HR132 := Aside0.mk (Kd.C_of_reads (h1 := fun _ => rfl) (hA21 _ (Kd.reads_of_C HR130.out)))
                      have HC132 := Aside0.mk hC21
                      clear hA21 hC21 hi021 hsz21
                      go_wp2_with (first | ((with_reducible refine gate_callee (f := 34) rfl ?_); refine goesL_ (some 44) rfl rfl Tryd.func34 (by kernel_rfl) rfl #[.slice A21 (D14.drop 1).length ((c0 - (ji10).toNat) - 1)] rfl (by (try simp only [List.map_toArray, List.map_cons, List.map_nil]); first | done | (rw [show (D14.drop 1).length = (D14.length - 1) from List.length_drop] <;> rfl) | (simp only [hji10]; rfl) | rfl | (simp only [List.length_drop, List.length_take]; rfl)) ?_; (with_reducible refine (ref_number.calls kj12 _ _ (D14.drop 1) t133 t134 _ (Wok_below hW (by repeat (first | (with_reducible first | exact HB.out | apply below_alloc | apply pw_below_drewN | apply below_drew1) | exact HB.out))) ?side1 ?side2 A19.out).mono ?_); (case side1 => repeat (first | exact (Kd.C_below HR132.out HB.out) | (with_reducible refine Kd.C_alloc ?_ _) | (with_reducible refine Kd.C_drewN ?_ _) | (with_reducible refine Kd.C_drew ?_))); (case side2 => exact HC132.out); rintro e w22 ⟨rfl, hb⟩; refine ⟨_, rfl, ?_⟩; have n0_ := Aside0.mk (below_step (by repeat (first | (with_reducible first | exact HB.out | apply below_alloc | apply pw_below_drewN | apply below_drew1) | exact HB.out)) hb); clear HB; have HB := n0_; clear n0_; (try clear hb); (try clear hb2); (try clear hk); (try clear hi)))
                      go_ret3
                      exact ⟨by first | rfl | (simp [errW_none, errW_some] <;> rfl) | (simp only [← hji10]; first | rfl | (simp [errW_none, errW_some] <;> rfl)) | (simp [*, errW_none, errW_some] <;> rfl), by repeat (first | (with_reducible first | exact HB.out | apply below_alloc | apply pw_below_drewN | apply below_drew1) | exact HB.out)⟩
                    · rw [if_neg c20] at H
                      have c20b0 : (t134 == 0) = false := beq_eq_false_iff_ne.mpr c20
                      have c20b1 : (t134 != 0) = true := bne_iff_ne.mpr c20
                      simp only [Option.some.injEq, Prod.mk.injEq] at H
                      obtain ⟨rfl, rfl, rfl⟩ := H
                      obtain ⟨i023, hi023, _, hsz23, _⟩ := info_parts info5
                      obtain ⟨A23, hcut23, hA23, hC23⟩ := print_drop_of (P := Tryd.prog) (Value.int .u8) 0 37 5 .i64 Tryd.underlying37 hi023 hsz23 A14 (c0 - (ji10).toNat) D14 1 (by omega) (of_decide_eq_true (by first | (with_reducible assumption) | assumption)) HC130.out
                      have HR132 := Aside0.mk (Kd.C_of_reads (h1 := fun _ => rfl) (hA23 _ (Kd.reads_of_C HR130.out)))
                      have HC132 := Aside0.mk hC23
                      clear hA23 hC23 hi023 hsz23
                      go_wp2_with (first | ((with_reducible refine gate_callee (f := 34) rfl ?_); refine goesL_ (some 44) rfl rfl Tryd.func34 (by kernel_rfl) rfl #[.slice A23 (D14.drop 1).length ((c0 - (ji10).toNat) - 1)] rfl (by (try simp only [List.map_toArray, List.map_cons, List.map_nil]); first | done | (rw [show (D14.drop 1).length = (D14.length - 1) from List.length_drop] <;> rfl) | (simp only [hji10]; rfl) | rfl | (simp only [List.length_drop, List.length_take]; rfl)) ?_; (with_reducible refine (ref_number.calls kj12 _ _ (D14.drop 1) t133 t134 _ (Wok_below hW (by repeat (first | (with_reducible first | exact HB.out | apply below_alloc | apply pw_below_drewN | apply below_drew1) | exact HB.out))) ?side1 ?side2 A19.out).mono ?_); (case side1 => repeat (first | exact (Kd.C_below HR132.out HB.out) | (with_reducible refine Kd.C_alloc ?_ _) | (with_reducible refine Kd.C_drewN ?_ _) | (with_reducible refine Kd.C_drew ?_))); (case side2 => exact HC132.out); rintro e w24 ⟨rfl, hb⟩; refine ⟨_, rfl, ?_⟩; have n0_ := Aside0.mk (below_step (by repeat (first | (with_reducible first | exact HB.out | apply below_alloc | apply pw_below_drewN | apply below_drew1) | exact HB.out)) hb); clear HB; have HB := n0_; clear n0_; (try clear hb); (try clear hb2); (try clear hk); (try clear hi)))
                      go_ret3
                      exact ⟨by first | rfl | (simp [errW_none, errW_some] <;> rfl) | (simp only [← hji10]; first | rfl | (simp [errW_none, errW_some] <;> rfl)) | (simp [*, errW_none, errW_some] <;> rfl), by repeat (first | (with_reducible first | exact HB.out | apply below_alloc | apply pw_below_drewN | apply below_drew1) | exact HB.out)⟩
                  · rw [if_neg c18] at H
                    exact absurd H (by simp)
                · replace c17 := Bool.eq_false_iff.mpr c17
                  subst c17
                  have H1 : ((ref_name.f kj12 D14 a2).bind fun bt135 => (if bt135.2 = 0 then (some ((⟨#[]⟩ : ByteArray), 0, false)) else (some (bt135.1, wrap64 ((wrap64 (a1 + 1)) + bt135.2), true)))) = some (r1, r2, r3) := by rw [if_neg (show ¬ (false = true) by decide)] at H; exact H
                  clear H
                  have H := H1
                  clear H1
                  replace H := Option.bind_eq_some_iff.mp H
                  obtain ⟨⟨t135, t136⟩, A250, H⟩ := H
                  replace H : (if t136 = 0 then (some ((⟨#[]⟩ : ByteArray), 0, false)) else (some (t135, wrap64 ((wrap64 (a1 + 1)) + t136), true))) = some (r1, r2, r3) := H
                  have A25 := Aside0.mk A250
                  clear A250
                  by_cases c26 : t136 = 0
                  · rw [if_pos c26] at H
                    have c26b0 : (t136 == 0) = true := beq_iff_eq.mpr c26
                    have c26b1 : (t136 != 0) = false := bne_eq_false_iff_eq.mpr c26
                    clear c26
                    simp only [Option.some.injEq, Prod.mk.injEq] at H
                    obtain ⟨rfl, rfl, rfl⟩ := H
                    go_wp2_with (first | ((with_reducible refine gate_callee (f := 35) rfl ?_); refine goesL_ (some 50) rfl rfl Tryd.func35 (by kernel_rfl) rfl #[.slice A14 D14.length (c0 - (ji10).toNat), .bool a2] rfl (by (try simp only [List.map_toArray, List.map_cons, List.map_nil]); first | done | (rw [show D14.length = (l0.length - (ji10).toNat) from List.length_drop] <;> rfl) | (simp only [hji10]; rfl) | rfl | (simp only [List.length_drop, List.length_take]; rfl)) ?_; (with_reducible refine (ref_name.calls kj12 _ _ D14 a2 t135 t136 _ (Wok_below hW (by repeat (first | (with_reducible first | exact HB.out | apply below_alloc | apply pw_below_drewN | apply below_drew1) | exact HB.out))) ?side1 ?side2 A25.out).mono ?_); (case side1 => repeat (first | exact (Kd.C_below HR130.out HB.out) | (with_reducible refine Kd.C_alloc ?_ _) | (with_reducible refine Kd.C_drewN ?_ _) | (with_reducible refine Kd.C_drew ?_))); (case side2 => exact HC130.out); rintro e w27 ⟨rfl, hb⟩; refine ⟨_, rfl, ?_⟩; have n0_ := Aside0.mk (below_step (by repeat (first | (with_reducible first | exact HB.out | apply below_alloc | apply pw_below_drewN | apply below_drew1) | exact HB.out)) hb); clear HB; have HB := n0_; clear n0_; (try clear hb); (try clear hb2); (try clear hk); (try clear hi)))
                    go_ret3
                    exact ⟨by first | rfl | (simp [errW_none, errW_some] <;> rfl) | (simp only [← hji10]; first | rfl | (simp [errW_none, errW_some] <;> rfl)) | (simp [*, errW_none, errW_some] <;> rfl), by repeat (first | (with_reducible first | exact HB.out | apply below_alloc | apply pw_below_drewN | apply below_drew1) | exact HB.out)⟩
                  · rw [if_neg c26] at H
                    have c26b0 : (t136 == 0) = false := beq_eq_false_iff_ne.mpr c26
                    have c26b1 : (t136 != 0) = true := bne_iff_ne.mpr c26
                    simp only [Option.some.injEq, Prod.mk.injEq] at H
                    obtain ⟨rfl, rfl, rfl⟩ := H
                    go_wp2_with (first | ((with_reducible refine gate_callee (f := 35) rfl ?_); refine goesL_ (some 50) rfl rfl Tryd.func35 (by kernel_rfl) rfl #[.slice A14 D14.length (c0 - (ji10).toNat), .bool a2] rfl (by (try simp only [List.map_toArray, List.map_cons, List.map_nil]); first | done | (rw [show D14.length = (l0.length - (ji10).toNat) from List.length_drop] <;> rfl) | (simp only [hji10]; rfl) | rfl | (simp only [List.length_drop, List.length_take]; rfl)) ?_; (with_reducible refine (ref_name.calls kj12 _ _ D14 a2 t135 t136 _ (Wok_below hW (by repeat (first | (with_reducible first | exact HB.out | apply below_alloc | apply pw_below_drewN | apply below_drew1) | exact HB.out))) ?side1 ?side2 A25.out).mono ?_); (case side1 => repeat (first | exact (Kd.C_below HR130.out HB.out) | (with_reducible refine Kd.C_alloc ?_ _) | (with_reducible refine Kd.C_drewN ?_ _) | (with_reducible refine Kd.C_drew ?_))); (case side2 => exact HC130.out); rintro e w28 ⟨rfl, hb⟩; refine ⟨_, rfl, ?_⟩; have n0_ := Aside0.mk (below_step (by repeat (first | (with_reducible first | exact HB.out | apply below_alloc | apply pw_below_drewN | apply below_drew1) | exact HB.out)) hb); clear HB; have HB := n0_; clear n0_; (try clear hb); (try clear hb2); (try clear hk); (try clear hi)))
                    go_ret3
                    exact ⟨by first | rfl | (simp [errW_none, errW_some] <;> rfl) | (simp only [← hji10]; first | rfl | (simp [errW_none, errW_some] <;> rfl)) | (simp [*, errW_none, errW_some] <;> rfl), by repeat (first | (with_reducible first | exact HB.out | apply below_alloc | apply pw_below_drewN | apply below_drew1) | exact HB.out)⟩
          · rw [if_neg c12] at H
            exact absurd H (by simp)
        · rw [if_neg c11] at H
          exact absurd H (by simp)

/-! ### utf8_DecodeRune: function 46 -/
def utf8_DecodeRune.inB (x : Int) : Bool := decide (0 ≤ x) && decide (x ≤ 255)
def utf8_DecodeRune.f (l0 : List Int) : Option (Int × Int) := if l0.isEmpty = false ∧ l0.all utf8_DecodeRune.inB = true ∧ l0.length ≤ 9223372036854775807 then some (((Lib.decodeGo (strOfNums l0)).1 : Int), ((Lib.decodeGo (strOfNums l0)).2 : Int)) else none
theorem utf8_DecodeRune.get_byte (l : List Int) (hb : l.all utf8_DecodeRune.inB = true) (j : Nat) (hj : j < l.length) : (((strOfNums l).get! j).toNat : Int) = l.getD j 0 := by
  have hs : j < (strOfNums l).size := by rw [strOfNums_size]; exact hj
  have e : (strOfNums l).get! j = (strOfNums l)[j]'hs := by
    show (strOfNums l).get! j = _
    simp [ByteArray.get!, getElem!_pos, hs]
    rfl
  have hr := List.all_eq_true.1 hb _ (List.getElem_mem hj)
  unfold utf8_DecodeRune.inB at hr
  rw [Bool.and_eq_true, decide_eq_true_eq, decide_eq_true_eq] at hr
  rw [e, List.getD_eq_getElem?_getD, List.getElem?_eq_getElem hj]
  have e2 : (strOfNums l)[j]'hs = UInt8.ofNat (l[j]).toNat := by
    have h1 : (strOfNums l).data.toList[j]? = some (UInt8.ofNat (l[j]).toNat) := by
      show (l.map fun n => UInt8.ofNat n.toNat)[j]? = _
      rw [List.getElem?_map, List.getElem?_eq_getElem hj]
      rfl
    have h2 : (strOfNums l).data.toList[j]? = some ((strOfNums l)[j]'hs) := by
      rw [List.getElem?_eq_getElem (show j < (strOfNums l).data.toList.length by rw [Array.length_toList]; exact hs)]
      exact congrArg some (Array.getElem_toList ..)
    exact Option.some.inj (h2.symm.trans h1)
  rw [e2, UInt8.toNat_ofNat', Option.getD_some]
  omega
theorem utf8_DecodeRune.calls (A0 : Option Addr) (c0 : Nat) (l0 : List Int) (r1 r2 : Int) (w : World) (hW : Wok w) (hr0 : Kd.C (Kd.int .u8) w A0 l0.length l0) (_hc0 : l0.length ≤ c0) (h : utf8_DecodeRune.f l0 = some (r1, r2)) :
    Calls Tryd.prog 46 #[.slice A0 l0.length c0] w fun e w' => e = .returned (.tuple #[.int .i32 r1, .int .i64 r2]) ∧ Below w.heap.size w w' := by
  unfold utf8_DecodeRune.f at h
  by_cases hc : l0.isEmpty = false ∧ l0.all utf8_DecodeRune.inB = true ∧ l0.length ≤ 9223372036854775807
  · rw [if_pos hc] at h
    obtain ⟨h1, h2, h3⟩ := hc
    have hpos : 0 < l0.length := by
      cases l0 with
      | nil => cases h1
      | cons _ _ => exact Nat.succ_pos _
    obtain ⟨rfl, rfl⟩ := Prod.mk.inj (Option.some.inj h)
    obtain ⟨ad, rfl, hcell⟩ := (Kd.reads_of_C (enc := Value.int .u8) (d := (0 : Int)) (h1 := fun _ => rfl) hr0).2.2 hpos
    obtain ⟨b, off, spot⟩ := ad
    have hspot : spot = none := by simpa [Addr.add] using World.cell?_spot (hcell 0 hpos)
    subst hspot
    have hp : ∀ j, j < (strOfNums l0).size → w.cell? ⟨b, off + j, none⟩ = some (.int .u8 ((strOfNums l0).get! j).toNat) := fun j hj => by
      rw [strOfNums_size] at hj
      rw [utf8_DecodeRune.get_byte l0 h2 j hj]
      have e : (⟨b, off, none⟩ : Addr).add j = ⟨b, off + j, none⟩ := by
        unfold Addr.add
        by_cases hj0 : j = 0 <;> simp [hj0]
      rw [← e]
      exact hcell j hj
    have hd := Tryd.utf8_DecodeRune (strOfNums l0) b off c0 w (Wok_u8 hW) hp
    rw [strOfNums_size] at hd
    exact hd
  · rw [if_neg hc] at h
    cases h

/-! ### char_Next: function 31 -/
def char_Next.j0 : Nat → List Int → Int → Bool → Option (Int × Int)
  | 0, _, _, _ => none
  | k + 1, x0, x1, x14 => if x14 = true then (some (0, 0)) else (if 0 ≤ x1 then (if x1 ≤ (x0.length : Int) then (if 0 < ((x0.drop (x1 : Int).toNat).length : Int) then (if (rd (x0.drop (x1 : Int).toNat) 0) = 0 then (some (65533, 1)) else (if (rd (x0.drop (x1 : Int).toNat) 0) = 13 then (if ((x0.drop (x1 : Int).toNat).length : Int) > 1 then (if 1 < ((x0.drop (x1 : Int).toNat).length : Int) then (if (rd (x0.drop (x1 : Int).toNat) 1) = 10 then (some (10, 2)) else (some (10, 1))) else (none)) else (some (10, 1))) else ((utf8_DecodeRune.f (x0.drop (x1 : Int).toNat)).bind fun bt140 => (some (bt140.1, bt140.2))))) else (none)) else (none)) else (none))
def char_Next.f (k : Nat) (l0 : List Int) (a1 : Int) : Option (Int × Int) := if a1 < 0 then (char_Next.j0 k l0 a1 true) else (char_Next.j0 k l0 a1 (decide (a1 ≥ (l0.length : Int))))
theorem char_Next.mono_l : ∀ k, (∀ y0 y1 y2, LeO (char_Next.j0 k y0 y1 y2) (char_Next.j0 (k + 1) y0 y1 y2))
  | 0 => fun _ _ _ r h => by simp [char_Next.j0] at h
  | k + 1 => by
    have ih0 := char_Next.mono_l k
    · intro y0 y1 y2
      unfold char_Next.j0
      repeat' first
      | (with_reducible exact ih0 _ _ _)
      | (with_reducible exact LeO.refl _)
      | (with_reducible exact LeO.none _)
      | (with_reducible refine LeO.ite ?_ ?_)
      | (with_reducible refine LeO.bind ?_ (fun _ => ?_))
      | exact ih0 _ _ _
      | exact LeO.none _
      | refine LeO.ite ?_ ?_
      | refine LeO.bind ?_ (fun _ => ?_)
theorem char_Next.mono : ∀ a0 a1 k, LeO (char_Next.f k a0 a1) (char_Next.f (k + 1) a0 a1) := by
  intro a0 a1 k
  have ih0 := char_Next.mono_l k
  unfold char_Next.f
  repeat' first
      | (with_reducible exact ih0 _ _ _)
      | (with_reducible exact LeO.refl _)
      | (with_reducible exact LeO.none _)
      | (with_reducible refine LeO.ite ?_ ?_)
      | (with_reducible refine LeO.bind ?_ (fun _ => ?_))
      | exact ih0 _ _ _
      | exact LeO.none _
      | refine LeO.ite ?_ ?_
      | refine LeO.bind ?_ (fun _ => ?_)
set_option maxHeartbeats 8000000 in
set_option maxRecDepth 100000 in
theorem char_Next.calls (k : Nat) (A0 : Option Addr) (c0 : Nat) (l0 : List Int) (a1 : Int) (r1 : Int) (r2 : Int) (w : World) (hW : Wok w) (hr0 : Kd.C (Kd.int .u8) w A0 l0.length l0) (hc0 : l0.length ≤ c0) (h : char_Next.f k l0 a1 = some (r1, r2)) :
    Calls Tryd.prog 31 #[.slice A0 l0.length c0, .int .i64 a1] w fun e w' => e = .returned (.tuple #[.int .i32 r1, .int .i64 r2]) ∧ Below w.heap.size w w' := by
  have HR0 := Aside0.mk hr0
  have HC0 := Aside0.mk hc0
  clear hr0 hc0
  have HB := Aside0.mk (Below.refl w.heap.size w)
  have H : (if a1 < 0 then (char_Next.j0 k l0 a1 true) else (char_Next.j0 k l0 a1 (decide (a1 ≥ (l0.length : Int))))) = some (r1, r2) := h
  clear h
  have HC3 := Aside0.mk H
  clear H
  go_enter Tryd.func31, Tryd.ntmps31
  go_upto_region 1 with (fail)
  go_cut [14] (fun v14 wc => ∃ (kq : Nat) (x14_2 : Bool), v14 = .bool x14_2 ∧ Aside0 (char_Next.j0 kq l0 a1 x14_2 = some (r1, r2)) ∧ Aside0 (kq ≤ k) ∧ Aside0 (Below w.heap.size w wc))
  case first =>
    have H := HC3.out
    clear HC3
    by_cases c4 : a1 < 0
    · rw [if_pos c4] at H
      have c4b0 : decide (a1 < 0) = true := decide_eq_true c4
      clear c4
      (first | rw [c4b0] | (simp only [i64_w, i32_w]; rw [c4b0]) | skip)
      have H' := Aside0.mk H
      clear H
      go_wp2
      go_meet
      case rel => exact ⟨_, (true), (by first | rfl | (simp; done) | (simp [*]; done)), H', ⟨by first | omega | exact Nat.le_refl _⟩, ⟨by repeat (first | (with_reducible first | exact HB.out | apply below_alloc | apply pw_below_drewN | apply below_drew1) | exact HB.out)⟩⟩
    · rw [if_neg c4] at H
      have c4b0 : decide (a1 < 0) = false := decide_eq_false c4
      clear c4
      (first | rw [c4b0] | (simp only [i64_w, i32_w]; rw [c4b0]) | skip)
      have H' := Aside0.mk H
      clear H
      go_wp2
      go_meet
      case rel => exact ⟨_, (decide (a1 ≥ (l0.length : Int))), (by first | rfl | (simp; done) | (simp [*]; done)), H', ⟨by first | omega | exact Nat.le_refl _⟩, ⟨by repeat (first | (with_reducible first | exact HB.out | apply below_alloc | apply pw_below_drewN | apply below_drew1) | exact HB.out)⟩⟩
  case rest =>
    clear HC3
    try clear p2
    try clear c3
    try clear c4
    try clear c4b0
    obtain ⟨kq, x14_2, rfl, HA, HJ2, HB⟩ := hcut
    cases kq with
    | zero => exact absurd HA.out (by simp [char_Next.j0])
    | succ kj2 =>
      have H := HA.out
      clear HA
      simp only [char_Next.j0] at H
      by_cases c5 : x14_2 = true
      · subst c5
        have H1 : (some (0, 0)) = some (r1, r2) := by rw [if_pos rfl] at H; exact H
        clear H
        have H := H1
        clear H1
        simp only [Option.some.injEq, Prod.mk.injEq] at H
        obtain ⟨rfl, rfl⟩ := H
        go_wp2
        go_ret2
        exact ⟨by first | rfl | (simp [errW_none, errW_some] <;> rfl) | (simp [*, errW_none, errW_some] <;> rfl), by repeat (first | (with_reducible first | exact HB.out | apply below_alloc | apply pw_below_drewN | apply below_drew1) | exact HB.out)⟩
      · replace c5 := Bool.eq_false_iff.mpr c5
        subst c5
        have H1 : (if 0 ≤ a1 then (if a1 ≤ (l0.length : Int) then (if 0 < ((l0.drop (a1 : Int).toNat).length : Int) then (if (rd (l0.drop (a1 : Int).toNat) 0) = 0 then (some (65533, 1)) else (if (rd (l0.drop (a1 : Int).toNat) 0) = 13 then (if ((l0.drop (a1 : Int).toNat).length : Int) > 1 then (if 1 < ((l0.drop (a1 : Int).toNat).length : Int) then (if (rd (l0.drop (a1 : Int).toNat) 1) = 10 then (some (10, 2)) else (some (10, 1))) else (none)) else (some (10, 1))) else ((utf8_DecodeRune.f (l0.drop (a1 : Int).toNat)).bind fun bt140 => (some (bt140.1, bt140.2))))) else (none)) else (none)) else (none)) = some (r1, r2) := by rw [if_neg (show ¬ (false = true) by decide)] at H; exact H
        clear H
        have H := H1
        clear H1
        by_cases c6 : 0 ≤ a1
        · rw [if_pos c6] at H
          have c6b0 := eq_true c6
          have c6b1 : decide (0 ≤ a1) = true := decide_eq_true c6
          clear c6
          by_cases c7 : a1 ≤ (l0.length : Int)
          · rw [if_pos c7] at H
            have c7b0 := eq_true c7
            have c7b1 : decide (a1 ≤ (l0.length : Int)) = true := decide_eq_true c7
            clear c7
            by_cases c8 : 0 < ((l0.drop (a1 : Int).toNat).length : Int)
            · rw [if_pos c8] at H
              have c8b0 : decide (0 < ((l0.drop (a1 : Int).toNat).length : Int)) = true := decide_eq_true c8
              have c8b1 : decide (0 < (l0.drop (a1 : Int).toNat).length) = true := decide_eq_true (by omega)
              have c8d0 := eq_true (show (0 : Int) < ((l0.length - (a1 : Int).toNat : Nat) : Int) by have h_ := c8; rw [List.length_drop] at h_; exact h_)
              have c8d1 := eq_true (show 0 < l0.length - (a1 : Int).toNat by have h_ := c8; rw [List.length_drop] at h_; omega)
              clear c8
              by_cases c9 : (rd (l0.drop (a1 : Int).toNat) 0) = 0
              · rw [if_pos c9] at H
                have c9b0 : ((rd (l0.drop (a1 : Int).toNat) 0) == 0) = true := beq_iff_eq.mpr c9
                have c9b1 : ((rd (l0.drop (a1 : Int).toNat) 0) != 0) = false := bne_eq_false_iff_eq.mpr c9
                clear c9
                simp only [Option.some.injEq, Prod.mk.injEq] at H
                obtain ⟨rfl, rfl⟩ := H
                obtain ⟨i010, hi010, _, hsz10, _⟩ := info_parts info5
                obtain ⟨A10, hcut10, hA10, hC10⟩ := print_drop_of (P := Tryd.prog) (Value.int .u8) 0 37 5 .i64 Tryd.underlying37 hi010 hsz10 A0 c0 l0 a1 (of_decide_eq_true (by first | (with_reducible assumption) | assumption)) (of_decide_eq_true (by first | (with_reducible assumption) | assumption)) HC0.out
                have HR137 := Aside0.mk (Kd.C_of_reads (h1 := fun _ => rfl) (hA10 _ (Kd.reads_of_C HR0.out)))
                have HC137 := Aside0.mk hC10
                clear hA10 hC10 hi010 hsz10
                have p138 : 0 ≤ (0 : Int) := (by omega)
                have q138 : 0 < ((l0.drop (a1 : Int).toNat).length : Int) := of_decide_eq_true (by first | (with_reducible assumption) | assumption)
                obtain ⟨ad138, e138, hx138_0⟩ := Kd.at_int HR137.out 0 p138 q138
                cases e138
                have qi138 : (0 < (l0.drop (a1 : Int).toNat).length) = True := eq_true (by omega)
                (try rw [show ((0 : Int)).toNat = 0 from rfl] at hx138_0)
                (try rw [Addr.add_zero'] at hx138_0)
                replace hx138_0 := (HB.out.cell (World.block_lt_of_cell? w _ hx138_0)).trans hx138_0
                replace p138 := eq_true p138
                replace q138 := eq_true q138
                go_wp2
                go_ret2
                exact ⟨by first | rfl | (simp [errW_none, errW_some] <;> rfl) | (simp [*, errW_none, errW_some] <;> rfl), by repeat (first | (with_reducible first | exact HB.out | apply below_alloc | apply pw_below_drewN | apply below_drew1) | exact HB.out)⟩
              · rw [if_neg c9] at H
                have c9b0 : ((rd (l0.drop (a1 : Int).toNat) 0) == 0) = false := beq_eq_false_iff_ne.mpr c9
                have c9b1 : ((rd (l0.drop (a1 : Int).toNat) 0) != 0) = true := bne_iff_ne.mpr c9
                by_cases c11 : (rd (l0.drop (a1 : Int).toNat) 0) = 13
                · rw [if_pos c11] at H
                  have c11b0 : ((rd (l0.drop (a1 : Int).toNat) 0) == 13) = true := beq_iff_eq.mpr c11
                  have c11b1 : ((rd (l0.drop (a1 : Int).toNat) 0) != 13) = false := bne_eq_false_iff_eq.mpr c11
                  clear c11
                  by_cases c12 : ((l0.drop (a1 : Int).toNat).length : Int) > 1
                  · rw [if_pos c12] at H
                    have c12b0 : decide (1 < ((l0.drop (a1 : Int).toNat).length : Int)) = true := decide_eq_true c12
                    have c12b1 : decide (1 < (l0.drop (a1 : Int).toNat).length) = true := decide_eq_true (by omega)
                    have c12d0 := eq_true (show (1 : Int) < ((l0.length - (a1 : Int).toNat : Nat) : Int) by have h_ := c12; rw [List.length_drop] at h_; exact h_)
                    have c12d1 := eq_true (show 1 < l0.length - (a1 : Int).toNat by have h_ := c12; rw [List.length_drop] at h_; omega)
                    clear c12
                    by_cases c13 : 1 < ((l0.drop (a1 : Int).toNat).length : Int)
                    · rw [if_pos c13] at H
                      have c13b0 : decide (1 < ((l0.drop (a1 : Int).toNat).length : Int)) = true := decide_eq_true c13
                      have c13b1 : decide (1 < (l0.drop (a1 : Int).toNat).length) = true := decide_eq_true (by omega)
                      have c13d0 := eq_true (show (1 : Int) < ((l0.length - (a1 : Int).toNat : Nat) : Int) by have h_ := c13; rw [List.length_drop] at h_; exact h_)
                      have c13d1 := eq_true (show 1 < l0.length - (a1 : Int).toNat by have h_ := c13; rw [List.length_drop] at h_; omega)
                      clear c13
                      by_cases c14 : (rd (l0.drop (a1 : Int).toNat) 1) = 10
                      · rw [if_pos c14] at H
                        have c14b0 : ((rd (l0.drop (a1 : Int).toNat) 1) == 10) = true := beq_iff_eq.mpr c14
                        have c14b1 : ((rd (l0.drop (a1 : Int).toNat) 1) != 10) = false := bne_eq_false_iff_eq.mpr c14
                        clear c14
                        simp only [Option.some.injEq, Prod.mk.injEq] at H
                        obtain ⟨rfl, rfl⟩ := H
                        obtain ⟨i015, hi015, _, hsz15, _⟩ := info_parts info5
                        obtain ⟨A15, hcut15, hA15, hC15⟩ := print_drop_of (P := Tryd.prog) (Value.int .u8) 0 37 5 .i64 Tryd.underlying37 hi015 hsz15 A0 c0 l0 a1 (of_decide_eq_true (by first | (with_reducible assumption) | assumption)) (of_decide_eq_true (by first | (with_reducible assumption) | assumption)) HC0.out
                        have HR137 := Aside0.mk (Kd.C_of_reads (h1 := fun _ => rfl) (hA15 _ (Kd.reads_of_C HR0.out)))
                        have HC137 := Aside0.mk hC15
                        clear hA15 hC15 hi015 hsz15
                        have p138 : 0 ≤ (0 : Int) := (by omega)
                        have q138 : 0 < ((l0.drop (a1 : Int).toNat).length : Int) := of_decide_eq_true (by first | (with_reducible assumption) | assumption)
                        obtain ⟨ad138, e138, hx138_0⟩ := Kd.at_int HR137.out 0 p138 q138
                        cases e138
                        have qi138 : (0 < (l0.drop (a1 : Int).toNat).length) = True := eq_true (by omega)
                        (try rw [show ((0 : Int)).toNat = 0 from rfl] at hx138_0)
                        (try rw [Addr.add_zero'] at hx138_0)
                        replace hx138_0 := (HB.out.cell (World.block_lt_of_cell? w _ hx138_0)).trans hx138_0
                        replace p138 := eq_true p138
                        replace q138 := eq_true q138
                        have p139 : 0 ≤ (1 : Int) := (by omega)
                        have q139 : 1 < ((l0.drop (a1 : Int).toNat).length : Int) := of_decide_eq_true (by first | (with_reducible assumption) | assumption)
                        obtain ⟨ad139, e139, hx139_0⟩ := Kd.at_int HR137.out 1 p139 q139
                        obtain rfl : ad138 = ad139 := (by injection e139)
                        (try simp only [show (1 : Int).toNat = 1 from rfl, Nat.reduceMul, Nat.reduceEqDiff, Go.Addr.add, ↓reduceIte] at hx139_0)
                        have qi139 : (1 < (l0.drop (a1 : Int).toNat).length) = True := eq_true (by omega)
                        (try rw [show ((1 : Int)).toNat = 1 from rfl] at hx139_0)
                        replace hx139_0 := (HB.out.cell (World.block_lt_of_cell? w _ hx139_0)).trans hx139_0
                        replace p139 := eq_true p139
                        replace q139 := eq_true q139
                        go_wp2
                        go_ret2
                        exact ⟨by first | rfl | (simp [errW_none, errW_some] <;> rfl) | (simp [*, errW_none, errW_some] <;> rfl), by repeat (first | (with_reducible first | exact HB.out | apply below_alloc | apply pw_below_drewN | apply below_drew1) | exact HB.out)⟩
                      · rw [if_neg c14] at H
                        have c14b0 : ((rd (l0.drop (a1 : Int).toNat) 1) == 10) = false := beq_eq_false_iff_ne.mpr c14
                        have c14b1 : ((rd (l0.drop (a1 : Int).toNat) 1) != 10) = true := bne_iff_ne.mpr c14
                        simp only [Option.some.injEq, Prod.mk.injEq] at H
                        obtain ⟨rfl, rfl⟩ := H
                        obtain ⟨i016, hi016, _, hsz16, _⟩ := info_parts info5
                        obtain ⟨A16, hcut16, hA16, hC16⟩ := print_drop_of (P := Tryd.prog) (Value.int .u8) 0 37 5 .i64 Tryd.underlying37 hi016 hsz16 A0 c0 l0 a1 (of_decide_eq_true (by first | (with_reducible assumption) | assumption)) (of_decide_eq_true (by first | (with_reducible assumption) | assumption)) HC0.out
                        have HR137 := Aside0.mk (Kd.C_of_reads (h1 := fun _ => rfl) (hA16 _ (Kd.reads_of_C HR0.out)))
                        have HC137 := Aside0.mk hC16
                        clear hA16 hC16 hi016 hsz16
                        have p138 : 0 ≤ (0 : Int) := (by omega)
                        have q138 : 0 < ((l0.drop (a1 : Int).toNat).length : Int) := of_decide_eq_true (by first | (with_reducible assumption) | assumption)
                        obtain ⟨ad138, e138, hx138_0⟩ := Kd.at_int HR137.out 0 p138 q138
                        cases e138
                        have qi138 : (0 < (l0.drop (a1 : Int).toNat).length) = True := eq_true (by omega)
                        (try rw [show ((0 : Int)).toNat = 0 from rfl] at hx138_0)
                        (try rw [Addr.add_zero'] at hx138_0)
                        replace hx138_0 := (HB.out.cell (World.block_lt_of_cell? w _ hx138_0)).trans hx138_0
                        replace p138 := eq_true p138
                        replace q138 := eq_true q138
                        have p139 : 0 ≤ (1 : Int) := (by omega)
                        have q139 : 1 < ((l0.drop (a1 : Int).toNat).length : Int) := of_decide_eq_true (by first | (with_reducible assumption) | assumption)
                        obtain ⟨ad139, e139, hx139_0⟩ := Kd.at_int HR137.out 1 p139 q139
                        obtain rfl : ad138 = ad139 := (by injection e139)
                        (try simp only [show (1 : Int).toNat = 1 from rfl, Nat.reduceMul, Nat.reduceEqDiff, Go.Addr.add, ↓reduceIte] at hx139_0)
                        have qi139 : (1 < (l0.drop (a1 : Int).toNat).length) = True := eq_true (by omega)
                        (try rw [show ((1 : Int)).toNat = 1 from rfl] at hx139_0)
                        replace hx139_0 := (HB.out.cell (World.block_lt_of_cell? w _ hx139_0)).trans hx139_0
                        replace p139 := eq_true p139
                        replace q139 := eq_true q139
                        go_wp2
                        go_ret2
                        exact ⟨by first | rfl | (simp [errW_none, errW_some] <;> rfl) | (simp [*, errW_none, errW_some] <;> rfl), by repeat (first | (with_reducible first | exact HB.out | apply below_alloc | apply pw_below_drewN | apply below_drew1) | exact HB.out)⟩
                    · rw [if_neg c13] at H
                      exact absurd H (by simp)
                  · rw [if_neg c12] at H
                    have c12b0 : decide (1 < ((l0.drop (a1 : Int).toNat).length : Int)) = false := decide_eq_false c12
                    have c12b1 : decide (1 < (l0.drop (a1 : Int).toNat).length) = false := decide_eq_false (by omega)
                    have c12d0 := eq_false (show ¬ (1 : Int) < ((l0.length - (a1 : Int).toNat : Nat) : Int) by have h_ := c12; rw [List.length_drop] at h_; exact h_)
                    have c12d1 := eq_true (show ((l0.length - (a1 : Int).toNat : Nat) : Int) ≤ 1 by have h_ := c12; rw [List.length_drop] at h_; omega)
                    clear c12
                    simp only [Option.some.injEq, Prod.mk.injEq] at H
                    obtain ⟨rfl, rfl⟩ := H
                    obtain ⟨i017, hi017, _, hsz17, _⟩ := info_parts info5
                    obtain ⟨A17, hcut17, hA17, hC17⟩ := print_drop_of (P := Tryd.prog) (Value.int .u8) 0 37 5 .i64 Tryd.underlying37 hi017 hsz17 A0 c0 l0 a1 (of_decide_eq_true (by first | (with_reducible assumption) | assumption)) (of_decide_eq_true (by first | (with_reducible assumption) | assumption)) HC0.out
                    have HR137 := Aside0.mk (Kd.C_of_reads (h1 := fun _ => rfl) (hA17 _ (Kd.reads_of_C HR0.out)))
                    have HC137 := Aside0.mk hC17
                    clear hA17 hC17 hi017 hsz17
                    have p138 : 0 ≤ (0 : Int) := (by omega)
                    have q138 : 0 < ((l0.drop (a1 : Int).toNat).length : Int) := of_decide_eq_true (by first | (with_reducible assumption) | assumption)
                    obtain ⟨ad138, e138, hx138_0⟩ := Kd.at_int HR137.out 0 p138 q138
                    cases e138
                    have qi138 : (0 < (l0.drop (a1 : Int).toNat).length) = True := eq_true (by omega)
                    (try rw [show ((0 : Int)).toNat = 0 from rfl] at hx138_0)
                    (try rw [Addr.add_zero'] at hx138_0)
                    replace hx138_0 := (HB.out.cell (World.block_lt_of_cell? w _ hx138_0)).trans hx138_0
                    replace p138 := eq_true p138
                    replace q138 := eq_true q138
                    go_wp2
                    go_ret2
                    exact ⟨by first | rfl | (simp [errW_none, errW_some] <;> rfl) | (simp [*, errW_none, errW_some] <;> rfl), by repeat (first | (with_reducible first | exact HB.out | apply below_alloc | apply pw_below_drewN | apply below_drew1) | exact HB.out)⟩
                · rw [if_neg c11] at H
                  have c11b0 : ((rd (l0.drop (a1 : Int).toNat) 0) == 13) = false := beq_eq_false_iff_ne.mpr c11
                  have c11b1 : ((rd (l0.drop (a1 : Int).toNat) 0) != 13) = true := bne_iff_ne.mpr c11
                  replace H := Option.bind_eq_some_iff.mp H
                  obtain ⟨⟨t140, t141⟩, A180, H⟩ := H
                  replace H : (some (t140, t141)) = some (r1, r2) := H
                  have A18 := Aside0.mk A180
                  clear A180
                  simp only [Option.some.injEq, Prod.mk.injEq] at H
                  obtain ⟨rfl, rfl⟩ := H
                  obtain ⟨i019, hi019, _, hsz19, _⟩ := info_parts info5
                  obtain ⟨A19, hcut19, hA19, hC19⟩ := print_drop_of (P := Tryd.prog) (Value.int .u8) 0 37 5 .i64 Tryd.underlying37 hi019 hsz19 A0 c0 l0 a1 (of_decide_eq_true (by first | (with_reducible assumption) | assumption)) (of_decide_eq_true (by first | (with_reducible assumption) | assumption)) HC0.out
                  have HR137 := Aside0.mk (Kd.C_of_reads (h1 := fun _ => rfl) (hA19 _ (Kd.reads_of_C HR0.out)))
                  have HC137 := Aside0.mk hC19
                  clear hA19 hC19 hi019 hsz19
                  have p138 : 0 ≤ (0 : Int) := (by omega)
                  have q138 : 0 < ((l0.drop (a1 : Int).toNat).length : Int) := of_decide_eq_true (by first | (with_reducible assumption) | assumption)
                  obtain ⟨ad138, e138, hx138_0⟩ := Kd.at_int HR137.out 0 p138 q138
                  cases e138
                  have qi138 : (0 < (l0.drop (a1 : Int).toNat).length) = True := eq_true (by omega)
                  (try rw [show ((0 : Int)).toNat = 0 from rfl] at hx138_0)
                  (try rw [Addr.add_zero'] at hx138_0)
                  replace hx138_0 := (HB.out.cell (World.block_lt_of_cell? w _ hx138_0)).trans hx138_0
                  replace p138 := eq_true p138
                  replace q138 := eq_true q138
                  go_wp2_with (first | ((with_reducible refine gate_callee (f := 46) rfl ?_); refine goesL_ (some 22) rfl rfl Tryd.func46 (by kernel_rfl) rfl #[.slice (some ad138) (l0.drop (a1 : Int).toNat).length (c0 - a1.toNat)] rfl (by (try simp only [List.map_toArray, List.map_cons, List.map_nil]); first | done | (rw [show (l0.drop (a1 : Int).toNat).length = (l0.length - a1.toNat) from List.length_drop] <;> rfl) | rfl | (simp only [List.length_drop, List.length_take]; rfl)) ?_; (with_reducible refine (utf8_DecodeRune.calls _ _ (l0.drop (a1 : Int).toNat) t140 t141 _ (Wok_below hW (by repeat (first | (with_reducible first | exact HB.out | apply below_alloc | apply pw_below_drewN | apply below_drew1) | exact HB.out))) ?side1 ?side2 A18.out).mono ?_); (case side1 => repeat (first | exact (Kd.C_below HR137.out HB.out) | (with_reducible refine Kd.C_alloc ?_ _) | (with_reducible refine Kd.C_drewN ?_ _) | (with_reducible refine Kd.C_drew ?_))); (case side2 => exact HC137.out); rintro e w20 ⟨rfl, hb⟩; refine ⟨_, rfl, ?_⟩; have n0_ := Aside0.mk (below_step (by repeat (first | (with_reducible first | exact HB.out | apply below_alloc | apply pw_below_drewN | apply below_drew1) | exact HB.out)) hb); clear HB; have HB := n0_; clear n0_; (try clear hb); (try clear hb2); (try clear hk); (try clear hi)))
                  go_ret2
                  exact ⟨by first | rfl | (simp [errW_none, errW_some] <;> rfl) | (simp [*, errW_none, errW_some] <;> rfl), by repeat (first | (with_reducible first | exact HB.out | apply below_alloc | apply pw_below_drewN | apply below_drew1) | exact HB.out)⟩
            · rw [if_neg c8] at H
              exact absurd H (by simp)
          · rw [if_neg c7] at H
            exact absurd H (by simp)
        · rw [if_neg c6] at H
          exact absurd H (by simp)

/-! ### ref_Text: function 20 -/
def ref_Text.runeB (r : Int) : List UInt8 := (Lib.encodeRuneZ r).map fun z => UInt8.ofNat z.toNat
theorem ref_Text.rune_cells (r : Int) : Lib.runeCells r = Lib.byteCells (ref_Text.runeB r) := by
  unfold Lib.runeCells Lib.byteCells ref_Text.runeB
  rw [List.map_map]
  refine List.map_congr_left fun z hz => ?_
  have h := Lib.encodeRuneZ_byte r z hz
  show Value.int .u8 z = Value.int .u8 ((UInt8.ofNat z.toNat).toNat : Int)
  rw [UInt8.toNat_ofNat']
  congr 1
  omega
theorem ref_Text.cells_app (a b : List UInt8) : Lib.byteCells (a ++ b) = Lib.byteCells a ++ Lib.byteCells b := by
  unfold Lib.byteCells
  rw [List.map_append]
def ref_Text.l0 : Nat → List Int → Int → Int → Bool → List UInt8 → Option ByteArray
  | 0, _, _, _, _, _ => none
  | k + 1, l, p, q, at_, acc => if p < q then ((ref_Read.f k l p at_).bind fun t => if t.2.2 = true then (if acc.length + t.1.size ≤ 140737488355328 then ref_Text.l0 k l t.2.1 q at_ (acc ++ t.1.data.toList) else none) else ((char_Next.f k l p).bind fun cn => (if -2147483648 ≤ cn.1 ∧ cn.1 ≤ 2147483647 ∧ acc.length + 4 ≤ 140737488355328 then ref_Text.l0 k l (wrap64 (p + mx cn.2 1)) q at_ (acc ++ ref_Text.runeB cn.1) else none))) else some ⟨acc.toArray⟩
def ref_Text.f (k : Nat) (l0 : List Int) (a1 a2 : Int) (a3 : Bool) : Option ByteArray := if 0 ≤ a2 ∧ a2 ≤ (l0.length : Int) then ref_Text.l0 k (l0.take a2.toNat) a1 a2 a3 [] else none
theorem ref_Text.mono_l : ∀ k y0 y1 y2 y3 y4, LeO (ref_Text.l0 k y0 y1 y2 y3 y4) (ref_Text.l0 (k + 1) y0 y1 y2 y3 y4)
  | 0 => fun _ _ _ _ _ r h => by simp [ref_Text.l0] at h
  | k + 1 => by
    have ih0 := ref_Text.mono_l k
    intro y0 y1 y2 y3 y4
    unfold ref_Text.l0
    repeat' first
      | (with_reducible exact ih0 _ _ _ _ _)
      | (with_reducible exact char_Next.mono _ _ _)
      | (with_reducible exact ref_Read.mono _ _ _ _)
      | (with_reducible exact LeO.refl _)
      | (with_reducible exact LeO.none _)
      | (with_reducible refine LeO.ite ?_ ?_)
      | (with_reducible refine LeO.bind ?_ (fun _ => ?_))
theorem ref_Text.mono : ∀ a0 a1 a2 a3 k, LeO (ref_Text.f k a0 a1 a2 a3) (ref_Text.f (k + 1) a0 a1 a2 a3) := fun a0 a1 a2 a3 k => by
  unfold ref_Text.f
  exact LeO.ite (ref_Text.mono_l k _ _ _ _ _) (LeO.none _)
theorem ref_Text.builder_below {T e : TypeId} {B b : Nat} {bs : List Value} {w w1 : World} (h : Lib.IsBuilderF T e B b bs w) (hb : Below w.heap.size w w1) : Lib.IsBuilderF T e B b bs w1 := by
  have key : ∀ p, Lib.BuilderAtF T e B b p bs w → Lib.BuilderAtF T e B b p bs w1 := fun p hp => by
    have hlt := hp.lt
    obtain ⟨hB, v, hc, hown, hne⟩ := hp
    exact ⟨hB, v, (hb.block b hlt).trans hc, hown.kept (row := none) ⟨hb.os, hb.tape, hb.output, hb.size, fun k hk _ => hb.block k hk⟩ (by cases hv : v.ownBlock <;> simp), hne⟩
  exact h.imp (key _) (key _)
theorem ref_Text.builder_new (w : World) : Lib.IsBuilderF 62 5 w.heap.size w.heap.size [] (w.alloc (.cells #[.pointer none, .slice none 0 0] 62)) := Lib.IsBuilderF.of (Lib.fresh_isBuilder _ _ w)
theorem ref_Text.below_all {W w1 w2 : World} (h : Below W.heap.size W w1) (k : Below w1.heap.size w1 w2) : Below W.heap.size W w2 := h.trans (k.mono h.size)
theorem ref_Text.cut (A : Option Addr) (c : Nat) (xs : List Int) (j : Int) (h0 : 0 ≤ j) (hm : j ≤ xs.length) (hc : xs.length ≤ c) (W : World) : (Instr.slice 37 (.slice A xs.length c) none (some (.int .i64 j)) (some (.int .i64 j))).run Tryd.prog W = .ok (.slice A (xs.take j.toNat).length j.toNat) W := by
  have hl : (xs.take j.toNat).length = j.toNat := by rw [List.length_take]; omega
  have hel : Tryd.prog.elem 37 = 5 := by simp [Program.elem, Tryd.underlying37]
  have hu : Tryd.prog.underlying 37 = some (.slice (Tryd.prog.elem 37)) := by rw [hel]; exact Tryd.underlying37
  have ha : (A.map fun x => x.add 0) = A := by cases A <;> simp [Addr.add]
  obtain ⟨i0, hi, _, hsz, _⟩ := info_parts info5
  rw [run_slice_hm W 37 A xs.length c hu .i64 .i64 j j h0 (Int.le_refl _) (by omega), hel, hl]
  simp [sizeOf, typeInfo, hi, hsz, sliced, Result.andThen, ha]
set_option maxRecDepth 100000 in
set_option maxHeartbeats 4000000 in
theorem ref_Text.calls (k : Nat) (A0 : Option Addr) (c0 : Nat) (l0 : List Int) (a1 a2 : Int) (a3 : Bool) (r : ByteArray) (w : World) (hW : Wok w) (hr0 : Kd.C (Kd.int .u8) w A0 l0.length l0) (hc0 : l0.length ≤ c0) (h : ref_Text.f k l0 a1 a2 a3 = some r) :
    Calls Tryd.prog 20 #[.slice A0 l0.length c0, .int .i64 a1, .int .i64 a2, .bool a3] w fun e w' => e = .returned (.string r) ∧ Below w.heap.size w w' := by
  unfold ref_Text.f at h
  by_cases hb : 0 ≤ a2 ∧ a2 ≤ (l0.length : Int)
  · rw [if_pos hb] at h
    obtain ⟨hb0, hb1⟩ := hb
    have hcut := ref_Text.cut A0 c0 l0 a2 hb0 hb1 hc0
    have hlen : (l0.take a2.toNat).length = a2.toNat := by rw [List.length_take]; omega
    have hr : Kd.C (Kd.int .u8) w A0 (l0.take a2.toNat).length (l0.take a2.toNat) := by
      rw [hlen]
      exact Kd.C_of_reads (h1 := fun _ => rfl) ((Kd.reads_of_C (enc := Value.int .u8) (d := (0 : Int)) (h1 := fun _ => rfl) hr0).take_ a2.toNat (by omega))
    have hc : (l0.take a2.toNat).length ≤ a2.toNat := by rw [hlen]; exact Nat.le_refl _
    generalize l0.take a2.toNat = l at *
    have HW := Lib.hid hW
    have HR := Lib.hid hr
    have HC := Lib.hid hc
    have HN := Lib.hid (ref_Text.builder_new w)
    have H0 := Lib.hid h
    clear hW hr0 hr hc hc0 h hlen hb0 hb1
    go_enter Tryd.func20, Tryd.ntmps20
    go_wp2
    go_loopg [10] k (fun gg s10 wr => ∃ (p : Int) (acc : List UInt8) (j : Nat), j ≤ gg ∧ s10 = .int .i64 p ∧ Hid (ref_Text.l0 j l p a2 a3 acc = some r) ∧ Hid (Lib.IsBuilderF 62 5 w.heap.size w.heap.size (Lib.byteCells acc) wr) ∧ Hid (Below w.heap.size w wr))
    case atStart => exact ⟨a1, [], k, Nat.le_refl _, rfl, H0, HN, Lib.hid ((Below.refl _ _).alloc (Nat.le_refl _) _)⟩
    case round =>
      clear H0 HN hcut
      obtain ⟨p, acc, j, hj, rfl, HL, HI, HB⟩ := hrel
      cases j with
      | zero => exact absurd HL.out (by simp [ref_Text.l0])
      | succ j =>
        have hl := HL.out
        clear HL
        rw [ref_Text.l0] at hl
        by_cases c1 : p < a2
        · rw [if_pos c1] at hl
          obtain ⟨t, hT, hl⟩ := Option.bind_eq_some_iff.1 hl
          obtain ⟨tx, te, tk⟩ := t
          dsimp only at hl
          have HTx := Lib.hid hT
          clear hT
          cases tk with
          | true =>
            rw [if_pos rfl] at hl
            by_cases c3 : acc.length + tx.size ≤ 140737488355328
            · rw [if_pos c3] at hl
              have hcl : (Lib.byteCells acc).length + tx.size ≤ 140737488355328 := by rw [Lib.byteCells_length]; exact c3
              have HCL := Lib.hid hcl
              have HLx := Lib.hid hl
              clear c3 hcl hl
              go_wp2_with (first | (go_at_call 22; refine (ref_Read.calls j A0 a2.toNat l p a3 tx te true _ (Wok_below HW.out HB.out) (Kd.C_below HR.out HB.out) HC.out HTx.out).mono ?_; rintro e w1 ⟨rfl, hb1⟩) | (go_at_call 30; refine (Tryd.Builder_WriteString_k w.heap.size w.heap.size (Lib.byteCells acc) tx _ (ref_Text.builder_below HI.out hb1) HCL.out (Nat.le_trans HB.out.size hb1.size)).mono ?_; rintro e w2 ⟨rfl, hi2, hb2, ho2⟩))
              go_roundg j
              case measure => omega
              case rel => exact ⟨_, acc ++ tx.data.toList, j, Nat.le_refl _, rfl, HLx, Lib.hid (.inr (by rw [ref_Text.cells_app]; exact hi2)), Lib.hid ((ref_Text.below_all HB.out hb1).trans hb2)⟩
            · rw [if_neg c3] at hl
              cases hl
          | false =>
            rw [if_neg (by decide)] at hl
            obtain ⟨cn, hN, hl⟩ := Option.bind_eq_some_iff.1 hl
            obtain ⟨c, n⟩ := cn
            dsimp only at hl
            have HNx := Lib.hid hN
            clear hN
            by_cases c3 : -2147483648 ≤ c ∧ c ≤ 2147483647 ∧ acc.length + 4 ≤ 140737488355328
            · rw [if_pos c3] at hl
              obtain ⟨c3, c4, c5⟩ := c3
              have hcl : (Lib.byteCells acc).length + 4 ≤ 140737488355328 := by rw [Lib.byteCells_length]; exact c5
              have HCL := Lib.hid hcl
              have H3 := Lib.hid c3
              have H4 := Lib.hid c4
              have HLx := Lib.hid hl
              clear c3 c4 c5 hcl hl
              go_wp2_with (first | (go_at_call 22; refine (ref_Read.calls j A0 a2.toNat l p a3 tx te false _ (Wok_below HW.out HB.out) (Kd.C_below HR.out HB.out) HC.out HTx.out).mono ?_; rintro e w0 ⟨rfl, hb0⟩; have HB0 := Lib.hid (ref_Text.below_all HB.out hb0); have HI0 := Lib.hid (ref_Text.builder_below HI.out hb0); clear hb0) | (go_at_call 31; refine (char_Next.calls j A0 a2.toNat l p c n _ (Wok_below HW.out HB0.out) (Kd.C_below HR.out HB0.out) HC.out HNx.out).mono ?_; rintro e w1 ⟨rfl, hb1⟩) | (go_at_call 32; refine (Tryd.Builder_WriteRune_k w.heap.size w.heap.size (Lib.byteCells acc) c H3.out H4.out _ (ref_Text.builder_below HI0.out hb1) HCL.out (Nat.le_trans HB0.out.size hb1.size)).mono ?_; rintro e w2 ⟨rfl, hi2, hb2, ho2⟩))
              all_goals
                have hlx : ref_Text.l0 j l (wrap64 (p + mx n 1)) a2 a3 (acc ++ ref_Text.runeB c) = some r := HLx.out
                unfold mx at hlx
                first
                  | rw [if_pos (by assumption)] at hlx
                  | rw [if_neg (by omega)] at hlx
                have HLy := Lib.hid hlx
                clear hlx
                go_roundg j
                case measure => omega
                case rel => exact ⟨_, acc ++ ref_Text.runeB c, j, Nat.le_refl _, rfl, HLy, Lib.hid (.inr (by rw [ref_Text.cells_app, ← ref_Text.rune_cells]; exact hi2)), Lib.hid ((ref_Text.below_all HB0.out hb1).trans hb2)⟩
            · rw [if_neg c3] at hl
              cases hl
        · rw [if_neg c1] at hl
          obtain rfl := Option.some.inj hl
          clear hl
          go_wp2_with (go_at_call 33; refine (Tryd.Builder_String_any_k w.heap.size w.heap.size acc _ HI.out HB.out.size).mono ?_; rintro e w2 ⟨rfl, hi2, hb2, ho2⟩)
          go_ret
          exact ⟨rfl, HB.out.trans hb2⟩
  · rw [if_neg hb] at h
    cases h

end Go.Proofs.YtnmjocoopbfpnaaDoor.PRefA
