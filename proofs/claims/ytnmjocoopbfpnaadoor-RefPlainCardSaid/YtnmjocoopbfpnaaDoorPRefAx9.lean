-- Laid by a program of this session (tools/patch_print.py) out of the translation. Not trusted: Lean checks it.
import Derived.IntWalk
import Derived.Test.YtnmjocoopbfpnaaDoorPRefAx0
import Derived.Test.YtnmjocoopbfpnaaDoorPRefAx1
import Derived.Test.YtnmjocoopbfpnaaDoorPRefAx3
import Derived.Test.YtnmjocoopbfpnaaDoorPRefAx4
import Derived.Test.YtnmjocoopbfpnaaDoorPRefAx7
import Derived.Test.YtnmjocoopbfpnaaDoorPRefAx8
namespace Go.Proofs.YtnmjocoopbfpnaaDoor.PRefA
open Go.RowKit Go.Proofs.YtnmjocoopbfpnaaDoorW.PrintWords Go.Proofs.YtnmjocoopbfpnaaDoorW.PrintLast Go.Proofs.YtnmjocoopbfpnaaDoorW.PrintMore
attribute [local go_sem] max2_int min2_int max_two min_two max_three min_three max_four min_four   -- for this text's walks alone
set_option linter.unusedVariables false
set_option linter.unusedSimpArgs false

/-! ### decanterref05_Text: function 24 -/
def decanterref05_Text.l0 : Nat → Int → Bool → ByteArray → List Int → Int → Option (ByteArray)
  | 0, _, _, _, _, _ => none
  | k + 1, x2, x3, x9, x10, x11 => if x11 < x2 then ((decanterref05_Read.f k x10 x11 x3).bind fun bt222 => (if bt222.2 ≥ 0 then (if x9.size + bt222.1.size ≤ 9223372036854775807 then (decanterref05_Text.l0 k x2 x3 (x9 ++ bt222.1) x10 bt222.2) else (none)) else ((decanterref02_Next.f k x10 x11).bind fun bt224 => ((decanterref02_UTF.f bt224.1).bind fun t226 => (if x9.size + (strOfNums t226).size ≤ 9223372036854775807 then (decanterref05_Text.l0 k x2 x3 (x9 ++ (strOfNums t226)) x10 (wrap64 (x11 + bt224.2))) else (none)))))) else (some x9)
def decanterref05_Text.f (k : Nat) (l0 : List Int) (a1 : Int) (a2 : Int) (a3 : Bool) : Option (ByteArray) := if 0 ≤ a2 then (if a2 ≤ (l0.length : Int) then (decanterref05_Text.l0 k a2 a3 (⟨#[]⟩ : ByteArray) (l0.take (a2 : Int).toNat) a1) else (none)) else (none)
theorem decanterref05_Text.mono_l : ∀ k, (∀ y0 y1 y2 y3 y4, LeO (decanterref05_Text.l0 k y0 y1 y2 y3 y4) (decanterref05_Text.l0 (k + 1) y0 y1 y2 y3 y4))
  | 0 => fun _ _ _ _ _ r h => by simp [decanterref05_Text.l0] at h
  | k + 1 => by
    have ih0 := decanterref05_Text.mono_l k
    · intro y0 y1 y2 y3 y4
      unfold decanterref05_Text.l0
      repeat' first
      | (with_reducible exact ih0 _ _ _ _ _)
      | (with_reducible exact decanterref02_Next.mono _ _ _)
      | (with_reducible exact decanterref05_Read.mono _ _ _ _)
      | (with_reducible exact LeO.refl _)
      | (with_reducible exact LeO.none _)
      | (with_reducible refine LeO.ite ?_ ?_)
      | (with_reducible refine LeO.bind ?_ (fun _ => ?_))
      | exact ih0 _ _ _ _ _
      | exact decanterref02_Next.mono _ _ _
      | exact decanterref05_Read.mono _ _ _ _
      | exact LeO.none _
      | refine LeO.ite ?_ ?_
      | refine LeO.bind ?_ (fun _ => ?_)
theorem decanterref05_Text.mono : ∀ a0 a1 a2 a3 k, LeO (decanterref05_Text.f k a0 a1 a2 a3) (decanterref05_Text.f (k + 1) a0 a1 a2 a3) := by
  intro a0 a1 a2 a3 k
  have ih0 := decanterref05_Text.mono_l k
  unfold decanterref05_Text.f
  repeat' first
      | (with_reducible exact ih0 _ _ _ _ _)
      | (with_reducible exact decanterref02_Next.mono _ _ _)
      | (with_reducible exact decanterref05_Read.mono _ _ _ _)
      | (with_reducible exact LeO.refl _)
      | (with_reducible exact LeO.none _)
      | (with_reducible refine LeO.ite ?_ ?_)
      | (with_reducible refine LeO.bind ?_ (fun _ => ?_))
      | exact ih0 _ _ _ _ _
      | exact decanterref02_Next.mono _ _ _
      | exact decanterref05_Read.mono _ _ _ _
      | exact LeO.none _
      | refine LeO.ite ?_ ?_
      | refine LeO.bind ?_ (fun _ => ?_)
set_option maxHeartbeats 8000000 in
set_option maxRecDepth 100000 in
theorem decanterref05_Text.calls (k : Nat) (A0 : Option Addr) (c0 : Nat) (l0 : List Int) (a1 : Int) (a2 : Int) (a3 : Bool) (r : ByteArray) (w : World) (hW : Wok w) (hr0 : Kd.C (Kd.int .u8) w A0 l0.length l0) (hc0 : l0.length ≤ c0) (h : decanterref05_Text.f k l0 a1 a2 a3 = some r) :
    Calls Tryd.prog 24 #[.slice A0 l0.length c0, .int .i64 a1, .int .i64 a2, .bool a3] w fun e w' => e = .returned (.string r) ∧ Below w.heap.size w w' := by
  have HR0 := Aside0.mk hr0
  have HC0 := Aside0.mk hc0
  clear hr0 hc0
  have HB := Aside0.mk (Below.refl w.heap.size w)
  have H : (if 0 ≤ a2 then (if a2 ≤ (l0.length : Int) then (decanterref05_Text.l0 k a2 a3 (⟨#[]⟩ : ByteArray) (l0.take (a2 : Int).toNat) a1) else (none)) else (none)) = some r := h
  clear h
  by_cases c5 : 0 ≤ a2
  · rw [if_pos c5] at H
    have c5b0 := eq_true c5
    have c5b1 : decide (0 ≤ a2) = true := decide_eq_true c5
    clear c5
    by_cases c6 : a2 ≤ (l0.length : Int)
    · rw [if_pos c6] at H
      have c6b0 := eq_true c6
      have c6b1 : decide (a2 ≤ (l0.length : Int)) = true := decide_eq_true c6
      clear c6
      have H' := Aside0.mk H
      clear H
      obtain ⟨i07, hi07, _, hsz7, _⟩ := info_parts info5
      obtain ⟨hcut7, hA7, hC7⟩ := print_take_of (P := Tryd.prog) (Value.int .u8) 0 37 5 .i64 Tryd.underlying37 hi07 hsz7 A0 c0 l0 a2 (of_decide_eq_true (by first | (with_reducible assumption) | assumption)) (of_decide_eq_true (by first | (with_reducible assumption) | assumption)) HC0.out
      have HR221 := Aside0.mk (Kd.C_of_reads (h1 := fun _ => rfl) (hA7 _ (Kd.reads_of_C HR0.out)))
      have HC221 := Aside0.mk hC7
      clear hA7 hC7 hi07 hsz7
      generalize (l0.take (a2 : Int).toNat) = T7 at *
      go_enter Tryd.func24, Tryd.ntmps24
      go_wp2
      go_loopg [9, 11] k (fun kq v9 v11 w' => ∃ (x9_1 : ByteArray) (x11_1 : Int), v9 = .string x9_1 ∧ v11 = .int .i64 x11_1 ∧ Aside0 (decanterref05_Text.l0 kq a2 a3 x9_1 T7 x11_1 = some r) ∧ Aside0 (kq ≤ k) ∧ Aside0 (Below w.heap.size w w'))
      case atStart => exact ⟨((⟨#[]⟩ : ByteArray)), (a1), (by first | rfl | (simp; done) | (simp [*]; done)), (by first | rfl | (simp; done) | (simp [*]; done)), H', ⟨Nat.le_refl _⟩, ⟨by repeat (first | (with_reducible first | exact HB.out | apply below_alloc | apply pw_below_drewN | apply below_drew1) | exact HB.out)⟩⟩
      case round =>
        clear H'
        try clear c2
        try clear p2
        try clear c5
        try clear c5b0
        try clear c5b1
        try clear c6
        try clear c6b0
        try clear c6b1
        obtain ⟨x9_1, x11_1, rfl, rfl, HA, HK1, HB⟩ := hrel
        cases gk with
        | zero => exact absurd HA.out (by simp [decanterref05_Text.l0])
        | succ k1 =>
          have H := HA.out
          clear HA
          simp only [decanterref05_Text.l0] at H
          by_cases c8 : x11_1 < a2
          · rw [if_pos c8] at H
            have c8b0 : decide (x11_1 < a2) = true := decide_eq_true c8
            clear c8
            replace H := Option.bind_eq_some_iff.mp H
            obtain ⟨⟨t222, t223⟩, A90, H⟩ := H
            replace H : (if t223 ≥ 0 then (if x9_1.size + t222.size ≤ 9223372036854775807 then (decanterref05_Text.l0 k1 a2 a3 (x9_1 ++ t222) T7 t223) else (none)) else ((decanterref02_Next.f k1 T7 x11_1).bind fun bt224 => ((decanterref02_UTF.f bt224.1).bind fun t226 => (if x9_1.size + (strOfNums t226).size ≤ 9223372036854775807 then (decanterref05_Text.l0 k1 a2 a3 (x9_1 ++ (strOfNums t226)) T7 (wrap64 (x11_1 + bt224.2))) else (none))))) = some r := H
            have A9 := Aside0.mk A90
            clear A90
            by_cases c10 : t223 ≥ 0
            · rw [if_pos c10] at H
              have c10b0 : decide (0 ≤ t223) = true := decide_eq_true c10
              clear c10
              by_cases c11 : x9_1.size + t222.size ≤ 9223372036854775807
              · rw [if_pos c11] at H
                have c11b0 := eq_true c11
                have c11b1 : decide (x9_1.size + t222.size ≤ 9223372036854775807) = true := decide_eq_true c11
                try have c11b2 : (9223372036854775807 < x9_1.size + t222.size) = False := eq_false (Nat.not_lt.2 c11)
                have H' := Aside0.mk H
                clear H
                go_wp2_with (first | ((with_reducible refine gate_callee (f := 23) rfl ?_); refine goesL_ (some 27) rfl rfl Tryd.func23 (by kernel_rfl) rfl #[.slice A0 T7.length c0, .int .i64 x11_1, .bool a3] rfl (by (try simp only [List.map_toArray, List.map_cons, List.map_nil]); first | done | (rw [show T7.length = a2.toNat from (by rw [List.length_take]; have h_ : (a2 : Int) ≤ (l0.length : Int) := of_decide_eq_true (by first | (with_reducible assumption) | assumption); omega)] <;> rfl) | rfl | (simp only [List.length_drop, List.length_take]; rfl)) ?_; (with_reducible refine (decanterref05_Read.calls k1 _ _ T7 x11_1 a3 t222 t223 _ (Wok_below hW (by repeat (first | (with_reducible first | exact HB.out | apply below_alloc | apply pw_below_drewN | apply below_drew1) | exact HB.out))) ?side1 ?side2 A9.out).mono ?_); (case side1 => repeat (first | exact (Kd.C_below HR221.out HB.out) | (with_reducible refine Kd.C_alloc ?_ _) | (with_reducible refine Kd.C_drewN ?_ _) | (with_reducible refine Kd.C_drew ?_))); (case side2 => exact HC221.out); rintro e w12 ⟨rfl, hb⟩; refine ⟨_, rfl, ?_⟩; have n0_ := Aside0.mk (below_step (by repeat (first | (with_reducible first | exact HB.out | apply below_alloc | apply pw_below_drewN | apply below_drew1) | exact HB.out)) hb); clear HB; have HB := n0_; clear n0_; (try clear hb); (try clear hb2); (try clear hk); (try clear hi)))
                go_roundg k1
                case measure => have := HK1.out; omega
                case rel => exact ⟨(x9_1 ++ t222), (t223), (by first | rfl | (simp; done) | (simp [*]; done)), (by first | rfl | (simp; done) | (simp [*]; done)), H', ⟨by have := HK1.out; omega⟩, ⟨by repeat (first | (with_reducible first | exact HB.out | apply below_alloc | apply pw_below_drewN | apply below_drew1) | exact HB.out)⟩⟩
              · rw [if_neg c11] at H
                exact absurd H (by simp)
            · rw [if_neg c10] at H
              have c10b0 : decide (0 ≤ t223) = false := decide_eq_false c10
              clear c10
              replace H := Option.bind_eq_some_iff.mp H
              obtain ⟨⟨t224, t225⟩, A130, H⟩ := H
              replace H : ((decanterref02_UTF.f t224).bind fun t226 => (if x9_1.size + (strOfNums t226).size ≤ 9223372036854775807 then (decanterref05_Text.l0 k1 a2 a3 (x9_1 ++ (strOfNums t226)) T7 (wrap64 (x11_1 + t225))) else (none))) = some r := H
              have A13 := Aside0.mk A130
              clear A130
              replace H := Option.bind_eq_some_iff.mp H
              obtain ⟨t226, A140, H⟩ := H
              replace H : (if x9_1.size + (strOfNums t226).size ≤ 9223372036854775807 then (decanterref05_Text.l0 k1 a2 a3 (x9_1 ++ (strOfNums t226)) T7 (wrap64 (x11_1 + t225))) else (none)) = some r := H
              have A14 := Aside0.mk A140
              clear A140
              by_cases c15 : x9_1.size + (strOfNums t226).size ≤ 9223372036854775807
              · rw [if_pos c15] at H
                have c15b0 := eq_true c15
                have c15b1 : decide (x9_1.size + (strOfNums t226).size ≤ 9223372036854775807) = true := decide_eq_true c15
                try have c15b2 : (9223372036854775807 < x9_1.size + (strOfNums t226).size) = False := eq_false (Nat.not_lt.2 c15)
                have H' := Aside0.mk H
                clear H
                go_wp2_with (first | ((with_reducible refine gate_callee (f := 23) rfl ?_); refine goesL_ (some 27) rfl rfl Tryd.func23 (by kernel_rfl) rfl #[.slice A0 T7.length c0, .int .i64 x11_1, .bool a3] rfl (by (try simp only [List.map_toArray, List.map_cons, List.map_nil]); first | done | (rw [show T7.length = a2.toNat from (by rw [List.length_take]; have h_ : (a2 : Int) ≤ (l0.length : Int) := of_decide_eq_true (by first | (with_reducible assumption) | assumption); omega)] <;> rfl) | rfl | (simp only [List.length_drop, List.length_take]; rfl)) ?_; (with_reducible refine (decanterref05_Read.calls k1 _ _ T7 x11_1 a3 t222 t223 _ (Wok_below hW (by repeat (first | (with_reducible first | exact HB.out | apply below_alloc | apply pw_below_drewN | apply below_drew1) | exact HB.out))) ?side1 ?side2 A9.out).mono ?_); (case side1 => repeat (first | exact (Kd.C_below HR221.out HB.out) | (with_reducible refine Kd.C_alloc ?_ _) | (with_reducible refine Kd.C_drewN ?_ _) | (with_reducible refine Kd.C_drew ?_))); (case side2 => exact HC221.out); rintro e w16 ⟨rfl, hb⟩; refine ⟨_, rfl, ?_⟩; have n0_ := Aside0.mk (below_step (by repeat (first | (with_reducible first | exact HB.out | apply below_alloc | apply pw_below_drewN | apply below_drew1) | exact HB.out)) hb); clear HB; have HB := n0_; clear n0_; (try clear hb); (try clear hb2); (try clear hk); (try clear hi)) | ((with_reducible refine gate_callee (f := 40) rfl ?_); refine goesL_ (some 39) rfl rfl Tryd.func40 (by kernel_rfl) rfl #[.slice A0 T7.length c0, .int .i64 x11_1] rfl (by (try simp only [List.map_toArray, List.map_cons, List.map_nil]); first | done | (rw [show T7.length = a2.toNat from (by rw [List.length_take]; have h_ : (a2 : Int) ≤ (l0.length : Int) := of_decide_eq_true (by first | (with_reducible assumption) | assumption); omega)] <;> rfl) | rfl | (simp only [List.length_drop, List.length_take]; rfl)) ?_; (with_reducible refine (decanterref02_Next.calls k1 _ _ T7 x11_1 t224 t225 _ ?side1 ?side2 A13.out).mono ?_); (case side1 => repeat (first | exact (Kd.C_below HR221.out HB.out) | (with_reducible refine Kd.C_alloc ?_ _) | (with_reducible refine Kd.C_drewN ?_ _) | (with_reducible refine Kd.C_drew ?_))); (case side2 => exact HC221.out); rintro e w' ⟨rfl, ⟨nd, rfl⟩⟩; refine ⟨_, rfl, ?_⟩) | ((with_reducible refine gate_callee (f := 37) rfl ?_); refine goesL_ (some 44) rfl rfl Tryd.func37 (by kernel_rfl) rfl #[.int .i64 t224] rfl (by (try simp only [List.map_toArray, List.map_cons, List.map_nil]); first | done | rfl | (simp only [List.length_drop, List.length_take]; rfl)) ?_; (with_reducible refine (decanterref02_UTF.calls t224 t226 _ A14.out).mono ?_); rintro e w17 ⟨v227, rfl, ho0, hb⟩; refine ⟨_, rfl, ?_⟩; have n0_ := Aside0.mk (Kd.R_lower ho0 (below_size (by repeat (first | (with_reducible first | exact HB.out | apply below_alloc | apply pw_below_drewN | apply below_drew1) | exact HB.out)))); have n1_ := Aside0.mk (below_step (by repeat (first | (with_reducible first | exact HB.out | apply below_alloc | apply pw_below_drewN | apply below_drew1) | exact HB.out)) hb); clear HB; have HO228 := n0_; have HB := n1_; clear n0_ n1_; (try clear hb); (try clear hb2); (try clear hk); (try clear hi); (try clear ho0); have hcv18 := own_string (P := Tryd.prog) Tryd.underlying37 Tryd.underlying5 Tryd.underlying9 (Kd.own_of_R HO228.out)))
                go_roundg k1
                case measure => have := HK1.out; omega
                case rel => exact ⟨(x9_1 ++ (strOfNums t226)), (wrap64 (x11_1 + t225)), (by first | rfl | (simp; done) | (rw [Go.IntWalk.wrap64_in (x11_1 + t225) (by omega)]; done) | (rw [Go.IntWalk.wrap64_in (x11_1 + t225) (by omega)]; simp; done) | (simp [*]; done)), (by first | rfl | (simp; done) | (rw [Go.IntWalk.wrap64_in (x11_1 + t225) (by omega)]; done) | (rw [Go.IntWalk.wrap64_in (x11_1 + t225) (by omega)]; simp; done) | (simp [*]; done)), H', ⟨by have := HK1.out; omega⟩, ⟨by repeat (first | (with_reducible first | exact HB.out | apply below_alloc | apply pw_below_drewN | apply below_drew1) | exact HB.out)⟩⟩
              · rw [if_neg c15] at H
                exact absurd H (by simp)
          · rw [if_neg c8] at H
            have c8b0 : decide (x11_1 < a2) = false := decide_eq_false c8
            clear c8
            obtain rfl := Option.some.inj H
            go_wp2
            go_ret
            exact ⟨by first | rfl | (simp [errW_none, errW_some] <;> rfl) | (simp [*, errW_none, errW_some] <;> rfl), by repeat (first | (with_reducible first | exact HB.out | apply below_alloc | apply pw_below_drewN | apply below_drew1) | exact HB.out)⟩
    · rw [if_neg c6] at H
      exact absurd H (by simp)
  · rw [if_neg c5] at H
    exact absurd H (by simp)

/-! ### decanterlaw05_RefTexts: function 9 -/
def decanterlaw05_RefTexts.j0 : Nat → List Int → Int → Int → Bool → Bool → Option (Bool)
  | 0, _, _, _, _, _ => none
  | k + 1, x0, x1, x2, x3, x17 => if x17 = true then ((decanterlaw05_speaks.f).bind fun t230 => (some t230)) else (if (wrap64 ((x0.length : Int) + 1)) = 0 then (none) else ((ref_Text.f k x0 (mn (Int.tmod (wrap64 (x1)) (wrap64 ((x0.length : Int) + 1))) (Int.tmod (wrap64 (x2)) (wrap64 ((x0.length : Int) + 1)))) (mx (Int.tmod (wrap64 (x1)) (wrap64 ((x0.length : Int) + 1))) (Int.tmod (wrap64 (x2)) (wrap64 ((x0.length : Int) + 1)))) x3).bind fun t231 => ((decanterref05_Text.f k x0 (mn (Int.tmod (wrap64 (x1)) (wrap64 ((x0.length : Int) + 1))) (Int.tmod (wrap64 (x2)) (wrap64 ((x0.length : Int) + 1)))) (mx (Int.tmod (wrap64 (x1)) (wrap64 ((x0.length : Int) + 1))) (Int.tmod (wrap64 (x2)) (wrap64 ((x0.length : Int) + 1)))) x3).bind fun t232 => (some (t231.toList == t232.toList)))))
def decanterlaw05_RefTexts.f (k : Nat) (l0 : List Int) (a1 : Int) (a2 : Int) (a3 : Bool) : Option (Bool) := (decanterlaw05_speaks.f).bind fun t229 => (if t229 = true then (decanterlaw05_RefTexts.j0 k l0 a1 a2 a3 (decide ((l0.length : Int) > 300))) else (decanterlaw05_RefTexts.j0 k l0 a1 a2 a3 true))
theorem decanterlaw05_RefTexts.mono_l : ∀ k, (∀ y0 y1 y2 y3 y4, LeO (decanterlaw05_RefTexts.j0 k y0 y1 y2 y3 y4) (decanterlaw05_RefTexts.j0 (k + 1) y0 y1 y2 y3 y4))
  | 0 => fun _ _ _ _ _ r h => by simp [decanterlaw05_RefTexts.j0] at h
  | k + 1 => by
    have ih0 := decanterlaw05_RefTexts.mono_l k
    · intro y0 y1 y2 y3 y4
      unfold decanterlaw05_RefTexts.j0
      repeat' first
      | (with_reducible exact ih0 _ _ _ _ _)
      | (with_reducible exact decanterref05_Text.mono _ _ _ _ _)
      | (with_reducible exact ref_Text.mono _ _ _ _ _)
      | (with_reducible exact LeO.refl _)
      | (with_reducible exact LeO.none _)
      | (with_reducible refine LeO.ite ?_ ?_)
      | (with_reducible refine LeO.bind ?_ (fun _ => ?_))
      | exact ih0 _ _ _ _ _
      | exact decanterref05_Text.mono _ _ _ _ _
      | exact ref_Text.mono _ _ _ _ _
      | exact LeO.none _
      | refine LeO.ite ?_ ?_
      | refine LeO.bind ?_ (fun _ => ?_)
theorem decanterlaw05_RefTexts.mono : ∀ a0 a1 a2 a3 k, LeO (decanterlaw05_RefTexts.f k a0 a1 a2 a3) (decanterlaw05_RefTexts.f (k + 1) a0 a1 a2 a3) := by
  intro a0 a1 a2 a3 k
  have ih0 := decanterlaw05_RefTexts.mono_l k
  unfold decanterlaw05_RefTexts.f
  repeat' first
      | (with_reducible exact ih0 _ _ _ _ _)
      | (with_reducible exact decanterref05_Text.mono _ _ _ _ _)
      | (with_reducible exact ref_Text.mono _ _ _ _ _)
      | (with_reducible exact LeO.refl _)
      | (with_reducible exact LeO.none _)
      | (with_reducible refine LeO.ite ?_ ?_)
      | (with_reducible refine LeO.bind ?_ (fun _ => ?_))
      | exact ih0 _ _ _ _ _
      | exact decanterref05_Text.mono _ _ _ _ _
      | exact ref_Text.mono _ _ _ _ _
      | exact LeO.none _
      | refine LeO.ite ?_ ?_
      | refine LeO.bind ?_ (fun _ => ?_)
set_option maxHeartbeats 8000000 in
set_option maxRecDepth 100000 in
theorem decanterlaw05_RefTexts.calls (k : Nat) (A0 : Option Addr) (c0 : Nat) (l0 : List Int) (a1 : Int) (a2 : Int) (a3 : Bool) (r : Bool) (w : World) (hW : Wok w) (hr0 : Kd.C (Kd.int .u8) w A0 l0.length l0) (hc0 : l0.length ≤ c0) (h : decanterlaw05_RefTexts.f k l0 a1 a2 a3 = some r) :
    Calls Tryd.prog 9 #[.slice A0 l0.length c0, .int .u16 a1, .int .u16 a2, .bool a3] w fun e w' => e = .returned (.bool r) ∧ Below w.heap.size w w' := by
  have HR0 := Aside0.mk hr0
  have HC0 := Aside0.mk hc0
  clear hr0 hc0
  have HB := Aside0.mk (Below.refl w.heap.size w)
  have H : ((decanterlaw05_speaks.f).bind fun t229 => (if t229 = true then (decanterlaw05_RefTexts.j0 k l0 a1 a2 a3 (decide ((l0.length : Int) > 300))) else (decanterlaw05_RefTexts.j0 k l0 a1 a2 a3 true))) = some r := h
  clear h
  have HC5 := Aside0.mk H
  clear H
  go_enter Tryd.func9, Tryd.ntmps9
  go_upto_region 1 with (fail)
  repeat (go_quiet (fail); go_upto_region 1 with (fail))
  go_cut [17] (fun v17 wc => ∃ (kq : Nat) (x17_4 : Bool), v17 = .bool x17_4 ∧ Aside0 (decanterlaw05_RefTexts.j0 kq l0 a1 a2 a3 x17_4 = some r) ∧ Aside0 (kq ≤ k) ∧ Aside0 (Below w.heap.size w wc))
  case first =>
    have H := HC5.out
    clear HC5
    replace H := Option.bind_eq_some_iff.mp H
    obtain ⟨t229, A60, H⟩ := H
    replace H : (if t229 = true then (decanterlaw05_RefTexts.j0 k l0 a1 a2 a3 (decide ((l0.length : Int) > 300))) else (decanterlaw05_RefTexts.j0 k l0 a1 a2 a3 true)) = some r := H
    have A6 := Aside0.mk A60
    clear A60
    by_cases c7 : t229 = true
    · subst c7
      have H1 : (decanterlaw05_RefTexts.j0 k l0 a1 a2 a3 (decide ((l0.length : Int) > 300))) = some r := by rw [if_pos rfl] at H; exact H
      clear H
      have H := H1
      clear H1
      have H' := Aside0.mk H
      clear H
      go_wp2_with (first | (go_at_call 19; (with_reducible refine (decanterlaw05_speaks.calls  true _ (Wok_below hW (by repeat (first | (with_reducible first | exact HB.out | apply below_alloc | apply pw_below_drewN | apply below_drew1) | exact HB.out))) A6.out).mono ?_); rintro e w8 ⟨rfl, hb⟩; have n0_ := Aside0.mk (below_step (by repeat (first | (with_reducible first | exact HB.out | apply below_alloc | apply pw_below_drewN | apply below_drew1) | exact HB.out)) hb); clear HB; have HB := n0_; clear n0_; (try clear hb); (try clear hb2); (try clear hk); (try clear hi)))
      repeat (go_quiet (first | (go_at_call 19; (with_reducible refine (decanterlaw05_speaks.calls  true _ (Wok_below hW (by repeat (first | (with_reducible first | exact HB.out | apply below_alloc | apply pw_below_drewN | apply below_drew1) | exact HB.out))) A6.out).mono ?_); rintro e w8 ⟨rfl, hb⟩; have n0_ := Aside0.mk (below_step (by repeat (first | (with_reducible first | exact HB.out | apply below_alloc | apply pw_below_drewN | apply below_drew1) | exact HB.out)) hb); clear HB; have HB := n0_; clear n0_; (try clear hb); (try clear hb2); (try clear hk); (try clear hi))); try go_wp2_with (first | (go_at_call 19; (with_reducible refine (decanterlaw05_speaks.calls  true _ (Wok_below hW (by repeat (first | (with_reducible first | exact HB.out | apply below_alloc | apply pw_below_drewN | apply below_drew1) | exact HB.out))) A6.out).mono ?_); rintro e w8 ⟨rfl, hb⟩; have n0_ := Aside0.mk (below_step (by repeat (first | (with_reducible first | exact HB.out | apply below_alloc | apply pw_below_drewN | apply below_drew1) | exact HB.out)) hb); clear HB; have HB := n0_; clear n0_; (try clear hb); (try clear hb2); (try clear hk); (try clear hi))))
      go_meet
      case rel => exact ⟨_, (decide ((l0.length : Int) > 300)), (by first | rfl | (simp; done) | (simp [*]; done)), H', ⟨by first | omega | exact Nat.le_refl _⟩, ⟨by repeat (first | (with_reducible first | exact HB.out | apply below_alloc | apply pw_below_drewN | apply below_drew1) | exact HB.out)⟩⟩
    · replace c7 := Bool.eq_false_iff.mpr c7
      subst c7
      have H1 : (decanterlaw05_RefTexts.j0 k l0 a1 a2 a3 true) = some r := by rw [if_neg (show ¬ (false = true) by decide)] at H; exact H
      clear H
      have H := H1
      clear H1
      have H' := Aside0.mk H
      clear H
      go_wp2_with (first | (go_at_call 19; (with_reducible refine (decanterlaw05_speaks.calls  false _ (Wok_below hW (by repeat (first | (with_reducible first | exact HB.out | apply below_alloc | apply pw_below_drewN | apply below_drew1) | exact HB.out))) A6.out).mono ?_); rintro e w9 ⟨rfl, hb⟩; have n0_ := Aside0.mk (below_step (by repeat (first | (with_reducible first | exact HB.out | apply below_alloc | apply pw_below_drewN | apply below_drew1) | exact HB.out)) hb); clear HB; have HB := n0_; clear n0_; (try clear hb); (try clear hb2); (try clear hk); (try clear hi)))
      repeat (go_quiet (first | (go_at_call 19; (with_reducible refine (decanterlaw05_speaks.calls  false _ (Wok_below hW (by repeat (first | (with_reducible first | exact HB.out | apply below_alloc | apply pw_below_drewN | apply below_drew1) | exact HB.out))) A6.out).mono ?_); rintro e w9 ⟨rfl, hb⟩; have n0_ := Aside0.mk (below_step (by repeat (first | (with_reducible first | exact HB.out | apply below_alloc | apply pw_below_drewN | apply below_drew1) | exact HB.out)) hb); clear HB; have HB := n0_; clear n0_; (try clear hb); (try clear hb2); (try clear hk); (try clear hi))); try go_wp2_with (first | (go_at_call 19; (with_reducible refine (decanterlaw05_speaks.calls  false _ (Wok_below hW (by repeat (first | (with_reducible first | exact HB.out | apply below_alloc | apply pw_below_drewN | apply below_drew1) | exact HB.out))) A6.out).mono ?_); rintro e w9 ⟨rfl, hb⟩; have n0_ := Aside0.mk (below_step (by repeat (first | (with_reducible first | exact HB.out | apply below_alloc | apply pw_below_drewN | apply below_drew1) | exact HB.out)) hb); clear HB; have HB := n0_; clear n0_; (try clear hb); (try clear hb2); (try clear hk); (try clear hi))))
      go_meet
      case rel => exact ⟨_, (true), (by first | rfl | (simp; done) | (simp [*]; done)), H', ⟨by first | omega | exact Nat.le_refl _⟩, ⟨by repeat (first | (with_reducible first | exact HB.out | apply below_alloc | apply pw_below_drewN | apply below_drew1) | exact HB.out)⟩⟩
  case rest =>
    clear HC5
    try clear p2
    try clear c7
    try clear c9
    obtain ⟨kq, x17_4, rfl, HA, HJ4, HB⟩ := hcut
    cases kq with
    | zero => exact absurd HA.out (by simp [decanterlaw05_RefTexts.j0])
    | succ kj4 =>
      have H := HA.out
      clear HA
      simp only [decanterlaw05_RefTexts.j0] at H
      by_cases c10 : x17_4 = true
      · subst c10
        have H1 : ((decanterlaw05_speaks.f).bind fun t230 => (some t230)) = some r := by rw [if_pos rfl] at H; exact H
        clear H
        have H := H1
        clear H1
        replace H := Option.bind_eq_some_iff.mp H
        obtain ⟨t230, A110, H⟩ := H
        replace H : (some t230) = some r := H
        have A11 := Aside0.mk A110
        clear A110
        obtain rfl := Option.some.inj H
        go_wp2_with (first | (go_at_call 19; (with_reducible refine (decanterlaw05_speaks.calls  t230 _ (Wok_below hW (by repeat (first | (with_reducible first | exact HB.out | apply below_alloc | apply pw_below_drewN | apply below_drew1) | exact HB.out))) A11.out).mono ?_); rintro e w12 ⟨rfl, hb⟩; have n0_ := Aside0.mk (below_step (by repeat (first | (with_reducible first | exact HB.out | apply below_alloc | apply pw_below_drewN | apply below_drew1) | exact HB.out)) hb); clear HB; have HB := n0_; clear n0_; (try clear hb); (try clear hb2); (try clear hk); (try clear hi)))
        repeat (go_quiet (first | (go_at_call 19; (with_reducible refine (decanterlaw05_speaks.calls  t230 _ (Wok_below hW (by repeat (first | (with_reducible first | exact HB.out | apply below_alloc | apply pw_below_drewN | apply below_drew1) | exact HB.out))) A11.out).mono ?_); rintro e w12 ⟨rfl, hb⟩; have n0_ := Aside0.mk (below_step (by repeat (first | (with_reducible first | exact HB.out | apply below_alloc | apply pw_below_drewN | apply below_drew1) | exact HB.out)) hb); clear HB; have HB := n0_; clear n0_; (try clear hb); (try clear hb2); (try clear hk); (try clear hi))); try go_wp2_with (first | (go_at_call 19; (with_reducible refine (decanterlaw05_speaks.calls  t230 _ (Wok_below hW (by repeat (first | (with_reducible first | exact HB.out | apply below_alloc | apply pw_below_drewN | apply below_drew1) | exact HB.out))) A11.out).mono ?_); rintro e w12 ⟨rfl, hb⟩; have n0_ := Aside0.mk (below_step (by repeat (first | (with_reducible first | exact HB.out | apply below_alloc | apply pw_below_drewN | apply below_drew1) | exact HB.out)) hb); clear HB; have HB := n0_; clear n0_; (try clear hb); (try clear hb2); (try clear hk); (try clear hi))))
        go_ret
        exact ⟨by first | rfl | (simp [errW_none, errW_some] <;> rfl) | (simp [*, errW_none, errW_some] <;> rfl), by repeat (first | (with_reducible first | exact HB.out | apply below_alloc | apply pw_below_drewN | apply below_drew1) | exact HB.out)⟩
      · replace c10 := Bool.eq_false_iff.mpr c10
        subst c10
        have H1 : (if (wrap64 ((l0.length : Int) + 1)) = 0 then (none) else ((ref_Text.f kj4 l0 (mn (Int.tmod (wrap64 (a1)) (wrap64 ((l0.length : Int) + 1))) (Int.tmod (wrap64 (a2)) (wrap64 ((l0.length : Int) + 1)))) (mx (Int.tmod (wrap64 (a1)) (wrap64 ((l0.length : Int) + 1))) (Int.tmod (wrap64 (a2)) (wrap64 ((l0.length : Int) + 1)))) a3).bind fun t231 => ((decanterref05_Text.f kj4 l0 (mn (Int.tmod (wrap64 (a1)) (wrap64 ((l0.length : Int) + 1))) (Int.tmod (wrap64 (a2)) (wrap64 ((l0.length : Int) + 1)))) (mx (Int.tmod (wrap64 (a1)) (wrap64 ((l0.length : Int) + 1))) (Int.tmod (wrap64 (a2)) (wrap64 ((l0.length : Int) + 1)))) a3).bind fun t232 => (some (t231.toList == t232.toList))))) = some r := by rw [if_neg (show ¬ (false = true) by decide)] at H; exact H
        clear H
        have H := H1
        clear H1
        by_cases c13 : (wrap64 ((l0.length : Int) + 1)) = 0
        · rw [if_pos c13] at H
          exact absurd H (by simp)
        · rw [if_neg c13] at H
          have c13b0 : ((wrap64 ((l0.length : Int) + 1)) == 0) = false := beq_eq_false_iff_ne.mpr c13
          have c13b1 : ((wrap64 ((l0.length : Int) + 1)) != 0) = true := bne_iff_ne.mpr c13
          obtain ⟨ji14, hji14⟩ : ∃ j_ : Int, (mn (Int.tmod (wrap64 (a1)) (wrap64 ((l0.length : Int) + 1))) (Int.tmod (wrap64 (a2)) (wrap64 ((l0.length : Int) + 1)))) = j_ := ⟨_, rfl⟩
          replace H : ((ref_Text.f kj4 l0 (ji14) (mx (Int.tmod (wrap64 (a1)) (wrap64 ((l0.length : Int) + 1))) (Int.tmod (wrap64 (a2)) (wrap64 ((l0.length : Int) + 1)))) a3).bind fun t231 => ((decanterref05_Text.f kj4 l0 (ji14) (mx (Int.tmod (wrap64 (a1)) (wrap64 ((l0.length : Int) + 1))) (Int.tmod (wrap64 (a2)) (wrap64 ((l0.length : Int) + 1)))) a3).bind fun t232 => (some (t231.toList == t232.toList)))) = some r := by first | (rw [hji14] at H; exact H) | (simp only [hji14] at H ⊢; exact H)
          (try rw [hji14] at c13b0)
          (try rw [hji14] at c13b1)
          have hji14_ : (if (Int.tmod (wrap64 (a2)) (wrap64 ((l0.length : Int) + 1))) < (Int.tmod (wrap64 (a1)) (wrap64 ((l0.length : Int) + 1))) then (Int.tmod (wrap64 (a2)) (wrap64 ((l0.length : Int) + 1))) else (Int.tmod (wrap64 (a1)) (wrap64 ((l0.length : Int) + 1)))) = ji14 := hji14
          obtain ⟨ji15, hji15⟩ : ∃ j_ : Int, (mx (Int.tmod (wrap64 (a1)) (wrap64 ((l0.length : Int) + 1))) (Int.tmod (wrap64 (a2)) (wrap64 ((l0.length : Int) + 1)))) = j_ := ⟨_, rfl⟩
          replace H : ((ref_Text.f kj4 l0 (ji14) (ji15) a3).bind fun t231 => ((decanterref05_Text.f kj4 l0 (ji14) (ji15) a3).bind fun t232 => (some (t231.toList == t232.toList)))) = some r := by first | (rw [hji15] at H; exact H) | (simp only [hji15] at H ⊢; exact H)
          (try rw [hji15] at c13b0)
          (try rw [hji15] at c13b1)
          have hji15_ : (if (Int.tmod (wrap64 (a1)) (wrap64 ((l0.length : Int) + 1))) < (Int.tmod (wrap64 (a2)) (wrap64 ((l0.length : Int) + 1))) then (Int.tmod (wrap64 (a2)) (wrap64 ((l0.length : Int) + 1))) else (Int.tmod (wrap64 (a1)) (wrap64 ((l0.length : Int) + 1)))) = ji15 := hji15
          replace H := Option.bind_eq_some_iff.mp H
          obtain ⟨t231, A160, H⟩ := H
          replace H : ((decanterref05_Text.f kj4 l0 (ji14) (ji15) a3).bind fun t232 => (some (t231.toList == t232.toList))) = some r := H
          have A16 := Aside0.mk A160
          clear A160
          replace H := Option.bind_eq_some_iff.mp H
          obtain ⟨t232, A170, H⟩ := H
          replace H : (some (t231.toList == t232.toList)) = some r := H
          have A17 := Aside0.mk A170
          clear A170
          obtain rfl := Option.some.inj H
          go_wp2_with (first | (go_at_call 20; (with_reducible refine (ref_Text.calls kj4 _ _ l0 ji14 ji15 a3 t231 _ (Wok_below hW (by repeat (first | (with_reducible first | exact HB.out | apply below_alloc | apply pw_below_drewN | apply below_drew1) | exact HB.out))) ?side1 ?side2 A16.out).mono ?_); (case side1 => repeat (first | exact (Kd.C_below HR0.out HB.out) | (with_reducible refine Kd.C_alloc ?_ _) | (with_reducible refine Kd.C_drewN ?_ _) | (with_reducible refine Kd.C_drew ?_))); (case side2 => exact HC0.out); rintro e w18 ⟨rfl, hb⟩; have n0_ := Aside0.mk (below_step (by repeat (first | (with_reducible first | exact HB.out | apply below_alloc | apply pw_below_drewN | apply below_drew1) | exact HB.out)) hb); clear HB; have HB := n0_; clear n0_; (try clear hb); (try clear hb2); (try clear hk); (try clear hi)) | (go_at_call 24; (with_reducible refine (decanterref05_Text.calls kj4 _ _ l0 ji14 ji15 a3 t232 _ (Wok_below hW (by repeat (first | (with_reducible first | exact HB.out | apply below_alloc | apply pw_below_drewN | apply below_drew1) | exact HB.out))) ?side1 ?side2 A17.out).mono ?_); (case side1 => repeat (first | exact (Kd.C_below HR0.out HB.out) | (with_reducible refine Kd.C_alloc ?_ _) | (with_reducible refine Kd.C_drewN ?_ _) | (with_reducible refine Kd.C_drew ?_))); (case side2 => exact HC0.out); rintro e w19 ⟨rfl, hb⟩; have n0_ := Aside0.mk (below_step (by repeat (first | (with_reducible first | exact HB.out | apply below_alloc | apply pw_below_drewN | apply below_drew1) | exact HB.out)) hb); clear HB; have HB := n0_; clear n0_; (try clear hb); (try clear hb2); (try clear hk); (try clear hi)))
          repeat (go_quiet (first | (go_at_call 20; (with_reducible refine (ref_Text.calls kj4 _ _ l0 ji14 ji15 a3 t231 _ (Wok_below hW (by repeat (first | (with_reducible first | exact HB.out | apply below_alloc | apply pw_below_drewN | apply below_drew1) | exact HB.out))) ?side1 ?side2 A16.out).mono ?_); (case side1 => repeat (first | exact (Kd.C_below HR0.out HB.out) | (with_reducible refine Kd.C_alloc ?_ _) | (with_reducible refine Kd.C_drewN ?_ _) | (with_reducible refine Kd.C_drew ?_))); (case side2 => exact HC0.out); rintro e w18 ⟨rfl, hb⟩; have n0_ := Aside0.mk (below_step (by repeat (first | (with_reducible first | exact HB.out | apply below_alloc | apply pw_below_drewN | apply below_drew1) | exact HB.out)) hb); clear HB; have HB := n0_; clear n0_; (try clear hb); (try clear hb2); (try clear hk); (try clear hi)) | (go_at_call 24; (with_reducible refine (decanterref05_Text.calls kj4 _ _ l0 ji14 ji15 a3 t232 _ (Wok_below hW (by repeat (first | (with_reducible first | exact HB.out | apply below_alloc | apply pw_below_drewN | apply below_drew1) | exact HB.out))) ?side1 ?side2 A17.out).mono ?_); (case side1 => repeat (first | exact (Kd.C_below HR0.out HB.out) | (with_reducible refine Kd.C_alloc ?_ _) | (with_reducible refine Kd.C_drewN ?_ _) | (with_reducible refine Kd.C_drew ?_))); (case side2 => exact HC0.out); rintro e w19 ⟨rfl, hb⟩; have n0_ := Aside0.mk (below_step (by repeat (first | (with_reducible first | exact HB.out | apply below_alloc | apply pw_below_drewN | apply below_drew1) | exact HB.out)) hb); clear HB; have HB := n0_; clear n0_; (try clear hb); (try clear hb2); (try clear hk); (try clear hi))); try go_wp2_with (first | (go_at_call 20; (with_reducible refine (ref_Text.calls kj4 _ _ l0 ji14 ji15 a3 t231 _ (Wok_below hW (by repeat (first | (with_reducible first | exact HB.out | apply below_alloc | apply pw_below_drewN | apply below_drew1) | exact HB.out))) ?side1 ?side2 A16.out).mono ?_); (case side1 => repeat (first | exact (Kd.C_below HR0.out HB.out) | (with_reducible refine Kd.C_alloc ?_ _) | (with_reducible refine Kd.C_drewN ?_ _) | (with_reducible refine Kd.C_drew ?_))); (case side2 => exact HC0.out); rintro e w18 ⟨rfl, hb⟩; have n0_ := Aside0.mk (below_step (by repeat (first | (with_reducible first | exact HB.out | apply below_alloc | apply pw_below_drewN | apply below_drew1) | exact HB.out)) hb); clear HB; have HB := n0_; clear n0_; (try clear hb); (try clear hb2); (try clear hk); (try clear hi)) | (go_at_call 24; (with_reducible refine (decanterref05_Text.calls kj4 _ _ l0 ji14 ji15 a3 t232 _ (Wok_below hW (by repeat (first | (with_reducible first | exact HB.out | apply below_alloc | apply pw_below_drewN | apply below_drew1) | exact HB.out))) ?side1 ?side2 A17.out).mono ?_); (case side1 => repeat (first | exact (Kd.C_below HR0.out HB.out) | (with_reducible refine Kd.C_alloc ?_ _) | (with_reducible refine Kd.C_drewN ?_ _) | (with_reducible refine Kd.C_drew ?_))); (case side2 => exact HC0.out); rintro e w19 ⟨rfl, hb⟩; have n0_ := Aside0.mk (below_step (by repeat (first | (with_reducible first | exact HB.out | apply below_alloc | apply pw_below_drewN | apply below_drew1) | exact HB.out)) hb); clear HB; have HB := n0_; clear n0_; (try clear hb); (try clear hb2); (try clear hk); (try clear hi))))
          go_ret
          exact ⟨by first | rfl | (simp [errW_none, errW_some] <;> rfl) | (simp only [← hji14, ← hji15]; first | rfl | (simp [errW_none, errW_some] <;> rfl)) | (simp [*, errW_none, errW_some] <;> rfl), by repeat (first | (with_reducible first | exact HB.out | apply below_alloc | apply pw_below_drewN | apply below_drew1) | exact HB.out)⟩

/-- THE ONE PURE STATEMENT of decanterlaw05_RefTexts: yours. -/
def decanterlaw05_RefTexts.Pure : Prop := ∀ (l0 : List Int) (a1 : Int) (a2 : Int) (a3 : Bool), l0.length ≤ maxLen → l0.length * 1 ≤ 140737488351232 → (∀ x ∈ l0, (Lit.int .u8 x).wf = true) → (Lit.int .u16 a1).wf = true → (Lit.int .u16 a2).wf = true → ∃ k, decanterlaw05_RefTexts.f k l0 a1 a2 a3 = some true
theorem decanterlaw05_RefTexts.walk (P : decanterlaw05_RefTexts.Pure) (a0 : Option Addr) (len0 cap0 : Nat) (z0 : List Int) (a1 : Int) (a2 : Int) (a3 : Bool) (w : World) (hW : Wok w) (w0 : (a0 = none ∧ len0 = 0 ∧ cap0 = 0 ∧ z0 = []) ∨ ∃ x, a0 = some x ∧ len0 ≤ cap0 ∧ cap0 ≤ maxLen ∧ z0.length = cap0 ∧ (∀ i, i < z0.length → w.cell? (x.add i) = some (.int .u8 (z0.getD i 0))) ∧ ∀ n ∈ z0, (Lit.int .u8 n).wf = true) (y0 : len0 * 1 ≤ 140737488351232) (w1 : (Lit.int .u16 a1).wf = true) (w2 : (Lit.int .u16 a2).wf = true) :
    Calls Tryd.prog 9 #[.slice a0 len0 cap0, .int .u16 a1, .int .u16 a2, .bool a3] w fun e w' => e = .returned (.bool true) ∧ Below w.heap.size w w' := by
  obtain ⟨l0, rfl, hr0, hm0, hw0, hc0⟩ := ReadsInt.ofRowC w0
  obtain ⟨k, h⟩ := P l0 a1 a2 a3 hm0 y0 hw0 w1 w2
  refine (decanterlaw05_RefTexts.calls k _ _ l0 a1 a2 a3 true w hW (Kd.C_of_reads (d := (0 : Int)) (h1 := fun _ => rfl) hr0) hc0 h).mono ?_
  rintro e w' ⟨rfl, hd⟩
  exact ⟨rfl, hd⟩

/-! ### decanterlaw05_RefReads: function 8 -/
mutual
def decanterlaw05_RefReads.j0 : Nat → List Int → Int → Bool → Option (Bool)
  | 0, _, _, _ => none
  | k + 1, x0, x1, x19 => if x19 = true then ((decanterlaw05_speaks.f).bind fun t234 => (some t234)) else (decanterlaw05_RefReads.l0 k x0 x1 (wrap64 ((x0.length : Int) + 1)) 0)
def decanterlaw05_RefReads.l0 : Nat → List Int → Int → Int → Int → Option (Bool)
  | 0, _, _, _, _ => none
  | k + 1, x0, x1, x23, x24 => if x24 < x23 then (if x24 = (x0.length : Int) then (decanterlaw05_RefReads.j2 k x0 x1 x1 x23 x24) else (decanterlaw05_RefReads.j2 k x0 x1 x24 x23 x24)) else (some true)
def decanterlaw05_RefReads.j2 : Nat → List Int → Int → Int → Int → Int → Option (Bool)
  | 0, _, _, _, _, _ => none
  | k + 1, x0, x1, x5, x23, x24 => (some (([false, true] : List Bool) : List Bool)).bind fun y235 => (decanterlaw05_RefReads.l1 k x0 x1 x5 x23 x24 y235 (y235.length : Int) 0)
def decanterlaw05_RefReads.l1 : Nat → List Int → Int → Int → Int → Int → List Bool → Int → Int → Option (Bool)
  | 0, _, _, _, _, _, _, _, _ => none
  | k + 1, x0, x1, x5, x23, x24, x32, x33, x34 => if x34 < x33 then (if 0 ≤ x34 then (if x34 < (x32.length : Int) then ((ref_Read.f k x0 x5 (rdOf false x32 x34)).bind fun bt239 => ((decanterref05_Read.f k x0 x5 (rdOf false x32 x34)).bind fun bt242 => (if (bt239.2.2 != (decide (bt242.2 ≥ 0))) = true then (some false) else (if bt239.1.toList = bt242.1.toList then (if bt239.2.1 = (mx bt242.2 0) then (decanterlaw05_RefReads.l1 k x0 x1 x5 x23 x24 x32 x33 (wrap64 (x34 + 1))) else (some false)) else (some false))))) else (none)) else (none)) else (decanterlaw05_RefReads.l0 k x0 x1 x23 (wrap64 (x24 + 1)))
end
def decanterlaw05_RefReads.f (k : Nat) (l0 : List Int) (a1 : Int) : Option (Bool) := (decanterlaw05_speaks.f).bind fun t233 => (if t233 = true then (decanterlaw05_RefReads.j0 k l0 a1 (decide ((l0.length : Int) > 300))) else (decanterlaw05_RefReads.j0 k l0 a1 true))
theorem decanterlaw05_RefReads.mono_l : ∀ k, (∀ y0 y1 y2, LeO (decanterlaw05_RefReads.j0 k y0 y1 y2) (decanterlaw05_RefReads.j0 (k + 1) y0 y1 y2)) ∧ (∀ y0 y1 y2 y3, LeO (decanterlaw05_RefReads.l0 k y0 y1 y2 y3) (decanterlaw05_RefReads.l0 (k + 1) y0 y1 y2 y3)) ∧ (∀ y0 y1 y2 y3 y4, LeO (decanterlaw05_RefReads.j2 k y0 y1 y2 y3 y4) (decanterlaw05_RefReads.j2 (k + 1) y0 y1 y2 y3 y4)) ∧ (∀ y0 y1 y2 y3 y4 y5 y6 y7, LeO (decanterlaw05_RefReads.l1 k y0 y1 y2 y3 y4 y5 y6 y7) (decanterlaw05_RefReads.l1 (k + 1) y0 y1 y2 y3 y4 y5 y6 y7))
  | 0 => ⟨fun _ _ _ r h => by simp [decanterlaw05_RefReads.j0] at h, fun _ _ _ _ r h => by simp [decanterlaw05_RefReads.l0] at h, fun _ _ _ _ _ r h => by simp [decanterlaw05_RefReads.j2] at h, fun _ _ _ _ _ _ _ _ r h => by simp [decanterlaw05_RefReads.l1] at h⟩
  | k + 1 => by
    obtain ⟨ih0, ih1, ih2, ih3⟩ := decanterlaw05_RefReads.mono_l k
    refine ⟨?_, ?_, ?_, ?_⟩
    · intro y0 y1 y2
      unfold decanterlaw05_RefReads.j0
      repeat' first
      | (with_reducible exact ih0 _ _ _)
      | (with_reducible exact ih1 _ _ _ _)
      | (with_reducible exact ih2 _ _ _ _ _)
      | (with_reducible exact ih3 _ _ _ _ _ _ _ _)
      | (with_reducible exact decanterref05_Read.mono _ _ _ _)
      | (with_reducible exact ref_Read.mono _ _ _ _)
      | (with_reducible exact LeO.refl _)
      | (with_reducible exact LeO.none _)
      | (with_reducible refine LeO.ite ?_ ?_)
      | (with_reducible refine LeO.bind ?_ (fun _ => ?_))
      | exact ih0 _ _ _
      | exact ih1 _ _ _ _
      | exact ih2 _ _ _ _ _
      | exact ih3 _ _ _ _ _ _ _ _
      | exact decanterref05_Read.mono _ _ _ _
      | exact ref_Read.mono _ _ _ _
      | exact LeO.none _
      | refine LeO.ite ?_ ?_
      | refine LeO.bind ?_ (fun _ => ?_)
    · intro y0 y1 y2 y3
      unfold decanterlaw05_RefReads.l0
      repeat' first
      | (with_reducible exact ih0 _ _ _)
      | (with_reducible exact ih1 _ _ _ _)
      | (with_reducible exact ih2 _ _ _ _ _)
      | (with_reducible exact ih3 _ _ _ _ _ _ _ _)
      | (with_reducible exact decanterref05_Read.mono _ _ _ _)
      | (with_reducible exact ref_Read.mono _ _ _ _)
      | (with_reducible exact LeO.refl _)
      | (with_reducible exact LeO.none _)
      | (with_reducible refine LeO.ite ?_ ?_)
      | (with_reducible refine LeO.bind ?_ (fun _ => ?_))
      | exact ih0 _ _ _
      | exact ih1 _ _ _ _
      | exact ih2 _ _ _ _ _
      | exact ih3 _ _ _ _ _ _ _ _
      | exact decanterref05_Read.mono _ _ _ _
      | exact ref_Read.mono _ _ _ _
      | exact LeO.none _
      | refine LeO.ite ?_ ?_
      | refine LeO.bind ?_ (fun _ => ?_)
    · intro y0 y1 y2 y3 y4
      unfold decanterlaw05_RefReads.j2
      repeat' first
      | (with_reducible exact ih0 _ _ _)
      | (with_reducible exact ih1 _ _ _ _)
      | (with_reducible exact ih2 _ _ _ _ _)
      | (with_reducible exact ih3 _ _ _ _ _ _ _ _)
      | (with_reducible exact decanterref05_Read.mono _ _ _ _)
      | (with_reducible exact ref_Read.mono _ _ _ _)
      | (with_reducible exact LeO.refl _)
      | (with_reducible exact LeO.none _)
      | (with_reducible refine LeO.ite ?_ ?_)
      | (with_reducible refine LeO.bind ?_ (fun _ => ?_))
      | exact ih0 _ _ _
      | exact ih1 _ _ _ _
      | exact ih2 _ _ _ _ _
      | exact ih3 _ _ _ _ _ _ _ _
      | exact decanterref05_Read.mono _ _ _ _
      | exact ref_Read.mono _ _ _ _
      | exact LeO.none _
      | refine LeO.ite ?_ ?_
      | refine LeO.bind ?_ (fun _ => ?_)
    · intro y0 y1 y2 y3 y4 y5 y6 y7
      unfold decanterlaw05_RefReads.l1
      repeat' first
      | (with_reducible exact ih0 _ _ _)
      | (with_reducible exact ih1 _ _ _ _)
      | (with_reducible exact ih2 _ _ _ _ _)
      | (with_reducible exact ih3 _ _ _ _ _ _ _ _)
      | (with_reducible exact decanterref05_Read.mono _ _ _ _)
      | (with_reducible exact ref_Read.mono _ _ _ _)
      | (with_reducible exact LeO.refl _)
      | (with_reducible exact LeO.none _)
      | (with_reducible refine LeO.ite ?_ ?_)
      | (with_reducible refine LeO.bind ?_ (fun _ => ?_))
      | exact ih0 _ _ _
      | exact ih1 _ _ _ _
      | exact ih2 _ _ _ _ _
      | exact ih3 _ _ _ _ _ _ _ _
      | exact decanterref05_Read.mono _ _ _ _
      | exact ref_Read.mono _ _ _ _
      | exact LeO.none _
      | refine LeO.ite ?_ ?_
      | refine LeO.bind ?_ (fun _ => ?_)
theorem decanterlaw05_RefReads.mono : ∀ a0 a1 k, LeO (decanterlaw05_RefReads.f k a0 a1) (decanterlaw05_RefReads.f (k + 1) a0 a1) := by
  intro a0 a1 k
  obtain ⟨ih0, ih1, ih2, ih3⟩ := decanterlaw05_RefReads.mono_l k
  unfold decanterlaw05_RefReads.f
  repeat' first
      | (with_reducible exact ih0 _ _ _)
      | (with_reducible exact ih1 _ _ _ _)
      | (with_reducible exact ih2 _ _ _ _ _)
      | (with_reducible exact ih3 _ _ _ _ _ _ _ _)
      | (with_reducible exact decanterref05_Read.mono _ _ _ _)
      | (with_reducible exact ref_Read.mono _ _ _ _)
      | (with_reducible exact LeO.refl _)
      | (with_reducible exact LeO.none _)
      | (with_reducible refine LeO.ite ?_ ?_)
      | (with_reducible refine LeO.bind ?_ (fun _ => ?_))
      | exact ih0 _ _ _
      | exact ih1 _ _ _ _
      | exact ih2 _ _ _ _ _
      | exact ih3 _ _ _ _ _ _ _ _
      | exact decanterref05_Read.mono _ _ _ _
      | exact ref_Read.mono _ _ _ _
      | exact LeO.none _
      | refine LeO.ite ?_ ?_
      | refine LeO.bind ?_ (fun _ => ?_)
set_option maxHeartbeats 8000000 in
set_option maxRecDepth 100000 in
theorem decanterlaw05_RefReads.calls (k : Nat) (A0 : Option Addr) (c0 : Nat) (l0 : List Int) (a1 : Int) (r : Bool) (w : World) (hW : Wok w) (hr0 : Kd.C (Kd.int .u8) w A0 l0.length l0) (hc0 : l0.length ≤ c0) (h : decanterlaw05_RefReads.f k l0 a1 = some r) :
    Calls Tryd.prog 8 #[.slice A0 l0.length c0, .int .i64 a1] w fun e w' => e = .returned (.bool r) ∧ Below w.heap.size w w' := by
  have HR0 := Aside0.mk hr0
  have HC0 := Aside0.mk hc0
  clear hr0 hc0
  have HB := Aside0.mk (Below.refl w.heap.size w)
  have H : ((decanterlaw05_speaks.f).bind fun t233 => (if t233 = true then (decanterlaw05_RefReads.j0 k l0 a1 (decide ((l0.length : Int) > 300))) else (decanterlaw05_RefReads.j0 k l0 a1 true))) = some r := h
  clear h
  have HC3 := Aside0.mk H
  clear H
  go_enter Tryd.func8, Tryd.ntmps8
  go_upto_region 1 with (fail)
  go_cut [19] (fun v19 wc => ∃ (kq : Nat) (x19_2 : Bool), v19 = .bool x19_2 ∧ Aside0 (decanterlaw05_RefReads.j0 kq l0 a1 x19_2 = some r) ∧ Aside0 (kq ≤ k) ∧ Aside0 (Below w.heap.size w wc))
  case first =>
    have H := HC3.out
    clear HC3
    replace H := Option.bind_eq_some_iff.mp H
    obtain ⟨t233, A40, H⟩ := H
    replace H : (if t233 = true then (decanterlaw05_RefReads.j0 k l0 a1 (decide ((l0.length : Int) > 300))) else (decanterlaw05_RefReads.j0 k l0 a1 true)) = some r := H
    have A4 := Aside0.mk A40
    clear A40
    by_cases c5 : t233 = true
    · subst c5
      have H1 : (decanterlaw05_RefReads.j0 k l0 a1 (decide ((l0.length : Int) > 300))) = some r := by rw [if_pos rfl] at H; exact H
      clear H
      have H := H1
      clear H1
      have H' := Aside0.mk H
      clear H
      go_wp2_with (first | ((with_reducible refine gate_callee (f := 19) rfl ?_); refine goesL_ (some 13) rfl rfl Tryd.func19 (by kernel_rfl) rfl #[] rfl (by (try simp only [List.map_toArray, List.map_cons, List.map_nil]); first | done | rfl | (simp only [List.length_drop, List.length_take]; rfl)) ?_; (with_reducible refine (decanterlaw05_speaks.calls  true _ (Wok_below hW (by repeat (first | (with_reducible first | exact HB.out | apply below_alloc | apply pw_below_drewN | apply below_drew1) | exact HB.out))) A4.out).mono ?_); rintro e w6 ⟨rfl, hb⟩; refine ⟨_, rfl, ?_⟩; have n0_ := Aside0.mk (below_step (by repeat (first | (with_reducible first | exact HB.out | apply below_alloc | apply pw_below_drewN | apply below_drew1) | exact HB.out)) hb); clear HB; have HB := n0_; clear n0_; (try clear hb); (try clear hb2); (try clear hk); (try clear hi)))
      go_meet
      case rel => exact ⟨_, (decide ((l0.length : Int) > 300)), (by first | rfl | (simp; done) | (simp [*]; done)), H', ⟨by first | omega | exact Nat.le_refl _⟩, ⟨by repeat (first | (with_reducible first | exact HB.out | apply below_alloc | apply pw_below_drewN | apply below_drew1) | exact HB.out)⟩⟩
    · replace c5 := Bool.eq_false_iff.mpr c5
      subst c5
      have H1 : (decanterlaw05_RefReads.j0 k l0 a1 true) = some r := by rw [if_neg (show ¬ (false = true) by decide)] at H; exact H
      clear H
      have H := H1
      clear H1
      have H' := Aside0.mk H
      clear H
      go_wp2_with (first | ((with_reducible refine gate_callee (f := 19) rfl ?_); refine goesL_ (some 13) rfl rfl Tryd.func19 (by kernel_rfl) rfl #[] rfl (by (try simp only [List.map_toArray, List.map_cons, List.map_nil]); first | done | rfl | (simp only [List.length_drop, List.length_take]; rfl)) ?_; (with_reducible refine (decanterlaw05_speaks.calls  false _ (Wok_below hW (by repeat (first | (with_reducible first | exact HB.out | apply below_alloc | apply pw_below_drewN | apply below_drew1) | exact HB.out))) A4.out).mono ?_); rintro e w7 ⟨rfl, hb⟩; refine ⟨_, rfl, ?_⟩; have n0_ := Aside0.mk (below_step (by repeat (first | (with_reducible first | exact HB.out | apply below_alloc | apply pw_below_drewN | apply below_drew1) | exact HB.out)) hb); clear HB; have HB := n0_; clear n0_; (try clear hb); (try clear hb2); (try clear hk); (try clear hi)))
      go_meet
      case rel => exact ⟨_, (true), (by first | rfl | (simp; done) | (simp [*]; done)), H', ⟨by first | omega | exact Nat.le_refl _⟩, ⟨by repeat (first | (with_reducible first | exact HB.out | apply below_alloc | apply pw_below_drewN | apply below_drew1) | exact HB.out)⟩⟩
  case rest =>
    clear HC3
    try clear c1
    try clear p2
    try clear c5
    obtain ⟨kq, x19_2, rfl, HA, HJ2, HB⟩ := hcut
    cases kq with
    | zero => exact absurd HA.out (by simp [decanterlaw05_RefReads.j0])
    | succ kj2 =>
      have H := HA.out
      clear HA
      simp only [decanterlaw05_RefReads.j0] at H
      by_cases c8 : x19_2 = true
      · subst c8
        have H1 : ((decanterlaw05_speaks.f).bind fun t234 => (some t234)) = some r := by rw [if_pos rfl] at H; exact H
        clear H
        have H := H1
        clear H1
        replace H := Option.bind_eq_some_iff.mp H
        obtain ⟨t234, A90, H⟩ := H
        replace H : (some t234) = some r := H
        have A9 := Aside0.mk A90
        clear A90
        obtain rfl := Option.some.inj H
        go_wp2_with (first | ((with_reducible refine gate_callee (f := 19) rfl ?_); refine goesL_ (some 20) rfl rfl Tryd.func19 (by kernel_rfl) rfl #[] rfl (by (try simp only [List.map_toArray, List.map_cons, List.map_nil]); first | done | rfl | (simp only [List.length_drop, List.length_take]; rfl)) ?_; (with_reducible refine (decanterlaw05_speaks.calls  t234 _ (Wok_below hW (by repeat (first | (with_reducible first | exact HB.out | apply below_alloc | apply pw_below_drewN | apply below_drew1) | exact HB.out))) A9.out).mono ?_); rintro e w10 ⟨rfl, hb⟩; refine ⟨_, rfl, ?_⟩; have n0_ := Aside0.mk (below_step (by repeat (first | (with_reducible first | exact HB.out | apply below_alloc | apply pw_below_drewN | apply below_drew1) | exact HB.out)) hb); clear HB; have HB := n0_; clear n0_; (try clear hb); (try clear hb2); (try clear hk); (try clear hi)))
        go_ret
        exact ⟨by first | rfl | (simp [errW_none, errW_some] <;> rfl) | (simp [*, errW_none, errW_some] <;> rfl), by repeat (first | (with_reducible first | exact HB.out | apply below_alloc | apply pw_below_drewN | apply below_drew1) | exact HB.out)⟩
      · replace c8 := Bool.eq_false_iff.mpr c8
        subst c8
        have H1 : (decanterlaw05_RefReads.l0 kj2 l0 a1 (wrap64 ((l0.length : Int) + 1)) 0) = some r := by rw [if_neg (show ¬ (false = true) by decide)] at H; exact H
        clear H
        have H := H1
        clear H1
        have H' := Aside0.mk H
        clear H
        go_wp2
        go_loopg [24] kj2 (fun kq v24 w' => ∃ (x24_2 : Int), v24 = .int .i64 x24_2 ∧ Aside0 (decanterlaw05_RefReads.l0 kq l0 a1 (wrap64 ((l0.length : Int) + 1)) x24_2 = some r) ∧ Aside0 (kq ≤ kj2) ∧ Aside0 (Below w.heap.size w w'))
        case atStart => exact ⟨(0), (by first | rfl | (simp; done) | (simp [*]; done)), H', ⟨Nat.le_refl _⟩, ⟨by repeat (first | (with_reducible first | exact HB.out | apply below_alloc | apply pw_below_drewN | apply below_drew1) | exact HB.out)⟩⟩
        case round =>
          clear H'
          try clear c1
          try clear p2
          try clear c5
          try clear p6
          try clear c8
          try clear p2
          obtain ⟨x24_2, rfl, HA, HK2, HB⟩ := hrel
          cases gk with
          | zero => exact absurd HA.out (by simp [decanterlaw05_RefReads.l0])
          | succ k2 =>
            have H := HA.out
            clear HA
            simp only [decanterlaw05_RefReads.l0] at H
            by_cases c11 : x24_2 < (wrap64 ((l0.length : Int) + 1))
            · rw [if_pos c11] at H
              have c11b0 : decide (x24_2 < (wrap64 ((l0.length : Int) + 1))) = true := decide_eq_true c11
              clear c11
              have HC12 := Aside0.mk H
              clear H
              go_upto_if 30 with (fail)
              go_cut [5] (fun v5 wc => ∃ (kq : Nat) (x5_11 : Int), v5 = .int .i64 x5_11 ∧ Aside0 (decanterlaw05_RefReads.j2 kq l0 a1 x5_11 (wrap64 ((l0.length : Int) + 1)) x24_2 = some r) ∧ Aside0 (kq ≤ k2) ∧ Aside0 (Below w.heap.size w wc))
              case first =>
                have H := HC12.out
                clear HC12
                by_cases c13 : x24_2 = (l0.length : Int)
                · rw [if_pos c13] at H
                  have c13b0 : (x24_2 == (l0.length : Int)) = true := beq_iff_eq.mpr c13
                  have c13b1 : (x24_2 != (l0.length : Int)) = false := bne_eq_false_iff_eq.mpr c13
                  clear c13
                  (first | rw [c13b0] | (simp only [i64_w, i32_w]; rw [c13b0]) | skip)
                  have H' := Aside0.mk H
                  clear H
                  go_wp2
                  go_meet
                  case rel => exact ⟨_, (a1), (by first | rfl | (simp; done) | (simp [*]; done)), H', ⟨by have := HJ2.out; have := HK2.out; first | omega | exact Nat.le_refl _⟩, ⟨by repeat (first | (with_reducible first | exact HB.out | apply below_alloc | apply pw_below_drewN | apply below_drew1) | exact HB.out)⟩⟩
                · rw [if_neg c13] at H
                  have c13b0 : (x24_2 == (l0.length : Int)) = false := beq_eq_false_iff_ne.mpr c13
                  have c13b1 : (x24_2 != (l0.length : Int)) = true := bne_iff_ne.mpr c13
                  (first | rw [c13b0] | (simp only [i64_w, i32_w]; rw [c13b0]) | skip)
                  have H' := Aside0.mk H
                  clear H
                  go_wp2
                  go_meet
                  case rel => exact ⟨_, (x24_2), (by first | rfl | (simp; done) | (simp [*]; done)), H', ⟨by have := HJ2.out; have := HK2.out; first | omega | exact Nat.le_refl _⟩, ⟨by repeat (first | (with_reducible first | exact HB.out | apply below_alloc | apply pw_below_drewN | apply below_drew1) | exact HB.out)⟩⟩
              case rest =>
                clear HC12
                try clear c1
                try clear p2
                try clear c5
                try clear p6
                try clear c8
                try clear c11
                try clear c11b0
                try clear c13
                try clear c13b0
                try clear c13b1
                try clear p2
                try clear p6
                obtain ⟨kq, x5_11, rfl, HA, HJ11, HB⟩ := hcut
                cases kq with
                | zero => exact absurd HA.out (by simp [decanterlaw05_RefReads.j2])
                | succ kj11 =>
                  have H := HA.out
                  clear HA
                  simp only [decanterlaw05_RefReads.j2] at H
                  obtain ⟨y235, hy235⟩ : ∃ y_ : List Bool, y_ = (([false, true] : List Bool)) := ⟨_, rfl⟩
                  replace H : (decanterlaw05_RefReads.l1 kj11 l0 a1 x5_11 (wrap64 ((l0.length : Int) + 1)) x24_2 y235 (y235.length : Int) 0) = some r := by first | (rw [hy235]; with_reducible exact H) | (have H2_ := (Option.bind_some _ _).symm.trans H; rw [hy235]; with_reducible exact H2_) | (have H2_ := (Option.bind_some _ _).symm.trans H; with_reducible exact H2_) | with_reducible exact H | (rw [hy235]; exact H) | exact H
                  have Ny235 := Aside0.mk hy235
                  clear hy235
                  have H' := Aside0.mk H
                  clear H
                  go_wp2_with (first | ((with_reducible refine gate_dst (N := 32) rfl ?_); (try (refine gate_guard (by rfl) ?_; dsimp only)); refine Kd.R_lit Kd.bool _ 4 ?hg (N := 32) ?hd (xs := ([false, true] : List Bool)) (inner := [.bool false, .bool true]) (ok := fun _ => True) (okp := fun _ => True) ?hr ?hp (fun _ hk => hk) trivial (Below.refl _ _) (Nat.le_refl _) (by simp) ?_; (case hd => rfl); (case hg => rfl); (case hr => first | (go_simp; done) | (go_simp; rfl)); (case hp => exact (Reps.one (show Kd.M Kd.bool _ _ _ false [.bool false] from rfl) (Reps.one (show Kd.M Kd.bool _ _ _ true [.bool true] from rfl) (Reps.none _ _)))); intro v236 w14 ho15 hb hg_ hnew_; clear hg_ hnew_; (first | rw [← Ny235.out] at ho15 | (simp only [Int.reduceToNat] at ho15; rw [← Ny235.out] at ho15)); have n0_ := Aside0.mk (Kd.R_lower ho15 (below_size (by repeat (first | (with_reducible first | exact HB.out | apply below_alloc | apply pw_below_drewN | apply below_drew1) | exact HB.out)))); have n1_ := Aside0.mk (below_step (by repeat (first | (with_reducible first | exact HB.out | apply below_alloc | apply pw_below_drewN | apply below_drew1) | exact HB.out)) hb); clear HB; have HO237 := n0_; have HB := n1_; clear n0_ n1_; clear hb ho15; obtain ⟨Ao16, co16, eo16⟩ := Kd.R_slice HO237.out; subst eo16))
                  go_loopg [34] kj11 (fun kq v34 w' => ∃ (x34_4 : Int), v34 = .int .i64 x34_4 ∧ Aside0 (decanterlaw05_RefReads.l1 kq l0 a1 x5_11 (wrap64 ((l0.length : Int) + 1)) x24_2 y235 (y235.length : Int) x34_4 = some r) ∧ Aside0 (kq ≤ kj11) ∧ Aside0 (Kd.R Kd.bool 4 w' w.heap.size (fun _ => True) (.slice Ao16 y235.length co16) y235) ∧ Aside0 (Below w.heap.size w w'))
                  case atStart => exact ⟨(0), (by first | rfl | (simp; done) | (simp [*]; done)), H', ⟨Nat.le_refl _⟩, ⟨by (with_reducible repeat (first | apply Kd.R_alloc | apply Kd.R_drewN | apply Kd.R_drew)); exact HO237.out⟩, ⟨by repeat (first | (with_reducible first | exact HB.out | apply below_alloc | apply pw_below_drewN | apply below_drew1) | exact HB.out)⟩⟩
                  case round =>
                    clear H'
                    try clear c1
                    try clear p2
                    try clear c5
                    try clear p6
                    try clear c8
                    try clear c11
                    try clear c11b0
                    try clear c13
                    try clear c13b0
                    try clear c13b1
                    try clear p2
                    try clear p6
                    obtain ⟨x34_4, rfl, HA, HK4, HO_32, HB⟩ := hrel
                    cases gk with
                    | zero => exact absurd HA.out (by simp [decanterlaw05_RefReads.l1])
                    | succ k4 =>
                      have H := HA.out
                      clear HA
                      simp only [decanterlaw05_RefReads.l1] at H
                      by_cases c17 : x34_4 < (y235.length : Int)
                      · rw [if_pos c17] at H
                        have c17b0 : decide (x34_4 < (y235.length : Int)) = true := decide_eq_true c17
                        clear c17
                        by_cases c18 : 0 ≤ x34_4
                        · rw [if_pos c18] at H
                          have c18b0 : decide (0 ≤ x34_4) = true := decide_eq_true c18
                          clear c18
                          by_cases c19 : x34_4 < (y235.length : Int)
                          · rw [if_pos c19] at H
                            have c19b0 : decide (x34_4 < (y235.length : Int)) = true := decide_eq_true c19
                            clear c19
                            replace H := Option.bind_eq_some_iff.mp H
                            obtain ⟨⟨t239, t240, t241⟩, A200, H⟩ := H
                            replace H : ((decanterref05_Read.f k4 l0 x5_11 (rdOf false y235 x34_4)).bind fun bt242 => (if (t241 != (decide (bt242.2 ≥ 0))) = true then (some false) else (if t239.toList = bt242.1.toList then (if t240 = (mx bt242.2 0) then (decanterlaw05_RefReads.l1 k4 l0 a1 x5_11 (wrap64 ((l0.length : Int) + 1)) x24_2 y235 (y235.length : Int) (wrap64 (x34_4 + 1))) else (some false)) else (some false)))) = some r := H
                            have A20 := Aside0.mk A200
                            clear A200
                            replace H := Option.bind_eq_some_iff.mp H
                            obtain ⟨⟨t242, t243⟩, A210, H⟩ := H
                            replace H : (if (t241 != (decide (t243 ≥ 0))) = true then (some false) else (if t239.toList = t242.toList then (if t240 = (mx t243 0) then (decanterlaw05_RefReads.l1 k4 l0 a1 x5_11 (wrap64 ((l0.length : Int) + 1)) x24_2 y235 (y235.length : Int) (wrap64 (x34_4 + 1))) else (some false)) else (some false))) = some r := H
                            have A21 := Aside0.mk A210
                            clear A210
                            by_cases c22 : (t241 != (decide (t243 ≥ 0))) = true
                            · rw [if_pos c22] at H
                              have c22b0 : (t241 != (decide (t243 ≥ 0))) = true := c22
                              (try (have c22b1 : decide (t241 = (decide (t243 ≥ 0))) = false := by simpa using c22))
                              (try (have c22b2 : (t241 == (decide (t243 ≥ 0))) = false := by simpa using c22))
                              (try (have c22b3 : ¬ (t241 = (decide (t243 ≥ 0))) := by simpa using c22))
                              clear c22
                              obtain rfl := Option.some.inj H
                              have p238 : 0 ≤ (x34_4 : Int) := of_decide_eq_true (by first | (with_reducible assumption) | assumption)
                              have q238 : x34_4 < (y235.length : Int) := of_decide_eq_true (by first | (with_reducible assumption) | assumption)
                              obtain ⟨ad238, e238, hx238_0⟩ := Kd.at_bool (Kd.R_reads' HO_32.out).2.2 x34_4 p238 q238
                              cases e238
                              replace p238 := eq_true p238
                              replace q238 := eq_true q238
                              go_wp2_with (first | ((with_reducible refine gate_callee (f := 22) rfl ?_); refine goesL_ (some 42) rfl rfl Tryd.func22 (by kernel_rfl) rfl #[.slice A0 l0.length c0, .int .i64 x5_11, .bool (rdOf false y235 x34_4)] rfl (by (try simp only [List.map_toArray, List.map_cons, List.map_nil]); first | done | rfl | (simp only [List.length_drop, List.length_take]; rfl)) ?_; (with_reducible refine (ref_Read.calls k4 _ _ l0 x5_11 (rdOf false y235 x34_4) t239 t240 t241 _ (Wok_below hW (by repeat (first | (with_reducible first | exact HB.out | apply below_alloc | apply pw_below_drewN | apply below_drew1) | exact HB.out))) ?side1 ?side2 A20.out).mono ?_); (case side1 => repeat (first | exact (Kd.C_below HR0.out HB.out) | (with_reducible refine Kd.C_alloc ?_ _) | (with_reducible refine Kd.C_drewN ?_ _) | (with_reducible refine Kd.C_drew ?_))); (case side2 => exact HC0.out); rintro e w23 ⟨rfl, hb⟩; refine ⟨_, rfl, ?_⟩; have n0_ := Aside0.mk (Kd.R_below (by (with_reducible repeat (first | apply Kd.R_alloc | apply Kd.R_drewN | apply Kd.R_drew)); exact HO_32.out) hb); have n1_ := Aside0.mk (below_step (by repeat (first | (with_reducible first | exact HB.out | apply below_alloc | apply pw_below_drewN | apply below_drew1) | exact HB.out)) hb); clear HO_32; clear HB; have HO_32 := n0_; have HB := n1_; clear n0_ n1_; (try clear hb); (try clear hb2); (try clear hk); (try clear hi)) | ((with_reducible refine gate_callee (f := 23) rfl ?_); refine goesL_ (some 50) rfl rfl Tryd.func23 (by kernel_rfl) rfl #[.slice A0 l0.length c0, .int .i64 x5_11, .bool (rdOf false y235 x34_4)] rfl (by (try simp only [List.map_toArray, List.map_cons, List.map_nil]); first | done | rfl | (simp only [List.length_drop, List.length_take]; rfl)) ?_; (with_reducible refine (decanterref05_Read.calls k4 _ _ l0 x5_11 (rdOf false y235 x34_4) t242 t243 _ (Wok_below hW (by repeat (first | (with_reducible first | exact HB.out | apply below_alloc | apply pw_below_drewN | apply below_drew1) | exact HB.out))) ?side1 ?side2 A21.out).mono ?_); (case side1 => repeat (first | exact (Kd.C_below HR0.out HB.out) | (with_reducible refine Kd.C_alloc ?_ _) | (with_reducible refine Kd.C_drewN ?_ _) | (with_reducible refine Kd.C_drew ?_))); (case side2 => exact HC0.out); rintro e w24 ⟨rfl, hb⟩; refine ⟨_, rfl, ?_⟩; have n0_ := Aside0.mk (Kd.R_below (by (with_reducible repeat (first | apply Kd.R_alloc | apply Kd.R_drewN | apply Kd.R_drew)); exact HO_32.out) hb); have n1_ := Aside0.mk (below_step (by repeat (first | (with_reducible first | exact HB.out | apply below_alloc | apply pw_below_drewN | apply below_drew1) | exact HB.out)) hb); clear HO_32; clear HB; have HO_32 := n0_; have HB := n1_; clear n0_ n1_; (try clear hb); (try clear hb2); (try clear hk); (try clear hi)))
                              go_ret
                              exact ⟨by first | rfl | (simp [errW_none, errW_some] <;> rfl) | (simp [*, errW_none, errW_some] <;> rfl), by repeat (first | (with_reducible first | exact HB.out | apply below_alloc | apply pw_below_drewN | apply below_drew1) | exact HB.out)⟩
                            · rw [if_neg c22] at H
                              have c22b0 : (t241 != (decide (t243 ≥ 0))) = false := by simpa using c22
                              (try (have c22b1 : decide (t241 = (decide (t243 ≥ 0))) = true := by simpa using c22))
                              (try (have c22b2 : (t241 == (decide (t243 ≥ 0))) = true := by simpa using c22))
                              clear c22
                              by_cases c25 : t239.toList = t242.toList
                              · rw [if_pos c25] at H
                                have c25b0 : (t239.toList == t242.toList) = true := beq_iff_eq.mpr c25
                                have c25b1 : (t239.toList != t242.toList) = false := bne_eq_false_iff_eq.mpr c25
                                clear c25
                                obtain ⟨ji26, hji26⟩ : ∃ j_ : Int, (mx t243 0) = j_ := ⟨_, rfl⟩
                                replace H : (if t240 = (ji26) then (decanterlaw05_RefReads.l1 k4 l0 a1 x5_11 (wrap64 ((l0.length : Int) + 1)) x24_2 y235 (y235.length : Int) (wrap64 (x34_4 + 1))) else (some false)) = some r := by first | (rw [hji26] at H; exact H) | (simp only [hji26] at H ⊢; exact H)
                                (try rw [hji26] at c11b0)
                                (try rw [hji26] at A20)
                                (try rw [hji26] at A21)
                                (try (have hji26l : 0 ≤ ji26 := by (rw [← hji26]; unfold mx; (repeat' split) <;> omega)))
                                (try (have hji26m : 0 ≤ ji26 := by omega))
                                have hji26_ : (if t243 < 0 then 0 else t243) = ji26 := hji26
                                by_cases c27 : t240 = (ji26)
                                · rw [if_pos c27] at H
                                  have c27b0 : (t240 == (ji26)) = true := beq_iff_eq.mpr c27
                                  have c27b1 : (t240 != (ji26)) = false := bne_eq_false_iff_eq.mpr c27
                                  clear c27
                                  have H' := Aside0.mk H
                                  clear H
                                  have p238 : 0 ≤ (x34_4 : Int) := of_decide_eq_true (by first | (with_reducible assumption) | assumption)
                                  have q238 : x34_4 < (y235.length : Int) := of_decide_eq_true (by first | (with_reducible assumption) | assumption)
                                  obtain ⟨ad238, e238, hx238_0⟩ := Kd.at_bool (Kd.R_reads' HO_32.out).2.2 x34_4 p238 q238
                                  cases e238
                                  replace p238 := eq_true p238
                                  replace q238 := eq_true q238
                                  go_wp2_with (first | ((with_reducible refine gate_callee (f := 22) rfl ?_); refine goesL_ (some 42) rfl rfl Tryd.func22 (by kernel_rfl) rfl #[.slice A0 l0.length c0, .int .i64 x5_11, .bool (rdOf false y235 x34_4)] rfl (by (try simp only [List.map_toArray, List.map_cons, List.map_nil]); first | done | rfl | (simp only [List.length_drop, List.length_take]; rfl)) ?_; (with_reducible refine (ref_Read.calls k4 _ _ l0 x5_11 (rdOf false y235 x34_4) t239 t240 t241 _ (Wok_below hW (by repeat (first | (with_reducible first | exact HB.out | apply below_alloc | apply pw_below_drewN | apply below_drew1) | exact HB.out))) ?side1 ?side2 A20.out).mono ?_); (case side1 => repeat (first | exact (Kd.C_below HR0.out HB.out) | (with_reducible refine Kd.C_alloc ?_ _) | (with_reducible refine Kd.C_drewN ?_ _) | (with_reducible refine Kd.C_drew ?_))); (case side2 => exact HC0.out); rintro e w28 ⟨rfl, hb⟩; refine ⟨_, rfl, ?_⟩; have n0_ := Aside0.mk (Kd.R_below (by (with_reducible repeat (first | apply Kd.R_alloc | apply Kd.R_drewN | apply Kd.R_drew)); exact HO_32.out) hb); have n1_ := Aside0.mk (below_step (by repeat (first | (with_reducible first | exact HB.out | apply below_alloc | apply pw_below_drewN | apply below_drew1) | exact HB.out)) hb); clear HO_32; clear HB; have HO_32 := n0_; have HB := n1_; clear n0_ n1_; (try clear hb); (try clear hb2); (try clear hk); (try clear hi)) | ((with_reducible refine gate_callee (f := 23) rfl ?_); refine goesL_ (some 50) rfl rfl Tryd.func23 (by kernel_rfl) rfl #[.slice A0 l0.length c0, .int .i64 x5_11, .bool (rdOf false y235 x34_4)] rfl (by (try simp only [List.map_toArray, List.map_cons, List.map_nil]); first | done | rfl | (simp only [List.length_drop, List.length_take]; rfl)) ?_; (with_reducible refine (decanterref05_Read.calls k4 _ _ l0 x5_11 (rdOf false y235 x34_4) t242 t243 _ (Wok_below hW (by repeat (first | (with_reducible first | exact HB.out | apply below_alloc | apply pw_below_drewN | apply below_drew1) | exact HB.out))) ?side1 ?side2 A21.out).mono ?_); (case side1 => repeat (first | exact (Kd.C_below HR0.out HB.out) | (with_reducible refine Kd.C_alloc ?_ _) | (with_reducible refine Kd.C_drewN ?_ _) | (with_reducible refine Kd.C_drew ?_))); (case side2 => exact HC0.out); rintro e w29 ⟨rfl, hb⟩; refine ⟨_, rfl, ?_⟩; have n0_ := Aside0.mk (Kd.R_below (by (with_reducible repeat (first | apply Kd.R_alloc | apply Kd.R_drewN | apply Kd.R_drew)); exact HO_32.out) hb); have n1_ := Aside0.mk (below_step (by repeat (first | (with_reducible first | exact HB.out | apply below_alloc | apply pw_below_drewN | apply below_drew1) | exact HB.out)) hb); clear HO_32; clear HB; have HO_32 := n0_; have HB := n1_; clear n0_ n1_; (try clear hb); (try clear hb2); (try clear hk); (try clear hi)))
                                  go_roundg k4
                                  case measure => have := HJ2.out; have := HK2.out; have := HJ11.out; have := HK4.out; omega
                                  case rel => exact ⟨(wrap64 (x34_4 + 1)), (by first | rfl | (simp; done) | (rw [Go.IntWalk.wrap64_in (x34_4 + 1) (by omega)]; done) | (rw [Go.IntWalk.wrap64_in (x34_4 + 1) (by omega)]; simp; done) | (simp [*]; done)), H', ⟨by have := HJ2.out; have := HK2.out; have := HJ11.out; have := HK4.out; omega⟩, ⟨by (with_reducible repeat (first | apply Kd.R_alloc | apply Kd.R_drewN | apply Kd.R_drew)); exact HO_32.out⟩, ⟨by repeat (first | (with_reducible first | exact HB.out | apply below_alloc | apply pw_below_drewN | apply below_drew1) | exact HB.out)⟩⟩
                                · rw [if_neg c27] at H
                                  have c27b0 : (t240 == (ji26)) = false := beq_eq_false_iff_ne.mpr c27
                                  have c27b1 : (t240 != (ji26)) = true := bne_iff_ne.mpr c27
                                  obtain rfl := Option.some.inj H
                                  have p238 : 0 ≤ (x34_4 : Int) := of_decide_eq_true (by first | (with_reducible assumption) | assumption)
                                  have q238 : x34_4 < (y235.length : Int) := of_decide_eq_true (by first | (with_reducible assumption) | assumption)
                                  obtain ⟨ad238, e238, hx238_0⟩ := Kd.at_bool (Kd.R_reads' HO_32.out).2.2 x34_4 p238 q238
                                  cases e238
                                  replace p238 := eq_true p238
                                  replace q238 := eq_true q238
                                  go_wp2_with (first | ((with_reducible refine gate_callee (f := 22) rfl ?_); refine goesL_ (some 42) rfl rfl Tryd.func22 (by kernel_rfl) rfl #[.slice A0 l0.length c0, .int .i64 x5_11, .bool (rdOf false y235 x34_4)] rfl (by (try simp only [List.map_toArray, List.map_cons, List.map_nil]); first | done | rfl | (simp only [List.length_drop, List.length_take]; rfl)) ?_; (with_reducible refine (ref_Read.calls k4 _ _ l0 x5_11 (rdOf false y235 x34_4) t239 t240 t241 _ (Wok_below hW (by repeat (first | (with_reducible first | exact HB.out | apply below_alloc | apply pw_below_drewN | apply below_drew1) | exact HB.out))) ?side1 ?side2 A20.out).mono ?_); (case side1 => repeat (first | exact (Kd.C_below HR0.out HB.out) | (with_reducible refine Kd.C_alloc ?_ _) | (with_reducible refine Kd.C_drewN ?_ _) | (with_reducible refine Kd.C_drew ?_))); (case side2 => exact HC0.out); rintro e w30 ⟨rfl, hb⟩; refine ⟨_, rfl, ?_⟩; have n0_ := Aside0.mk (Kd.R_below (by (with_reducible repeat (first | apply Kd.R_alloc | apply Kd.R_drewN | apply Kd.R_drew)); exact HO_32.out) hb); have n1_ := Aside0.mk (below_step (by repeat (first | (with_reducible first | exact HB.out | apply below_alloc | apply pw_below_drewN | apply below_drew1) | exact HB.out)) hb); clear HO_32; clear HB; have HO_32 := n0_; have HB := n1_; clear n0_ n1_; (try clear hb); (try clear hb2); (try clear hk); (try clear hi)) | ((with_reducible refine gate_callee (f := 23) rfl ?_); refine goesL_ (some 50) rfl rfl Tryd.func23 (by kernel_rfl) rfl #[.slice A0 l0.length c0, .int .i64 x5_11, .bool (rdOf false y235 x34_4)] rfl (by (try simp only [List.map_toArray, List.map_cons, List.map_nil]); first | done | rfl | (simp only [List.length_drop, List.length_take]; rfl)) ?_; (with_reducible refine (decanterref05_Read.calls k4 _ _ l0 x5_11 (rdOf false y235 x34_4) t242 t243 _ (Wok_below hW (by repeat (first | (with_reducible first | exact HB.out | apply below_alloc | apply pw_below_drewN | apply below_drew1) | exact HB.out))) ?side1 ?side2 A21.out).mono ?_); (case side1 => repeat (first | exact (Kd.C_below HR0.out HB.out) | (with_reducible refine Kd.C_alloc ?_ _) | (with_reducible refine Kd.C_drewN ?_ _) | (with_reducible refine Kd.C_drew ?_))); (case side2 => exact HC0.out); rintro e w31 ⟨rfl, hb⟩; refine ⟨_, rfl, ?_⟩; have n0_ := Aside0.mk (Kd.R_below (by (with_reducible repeat (first | apply Kd.R_alloc | apply Kd.R_drewN | apply Kd.R_drew)); exact HO_32.out) hb); have n1_ := Aside0.mk (below_step (by repeat (first | (with_reducible first | exact HB.out | apply below_alloc | apply pw_below_drewN | apply below_drew1) | exact HB.out)) hb); clear HO_32; clear HB; have HO_32 := n0_; have HB := n1_; clear n0_ n1_; (try clear hb); (try clear hb2); (try clear hk); (try clear hi)))
                                  go_ret
                                  exact ⟨by first | rfl | (simp [errW_none, errW_some] <;> rfl) | (simp only [← hji26]; first | rfl | (simp [errW_none, errW_some] <;> rfl)) | (simp [*, errW_none, errW_some] <;> rfl), by repeat (first | (with_reducible first | exact HB.out | apply below_alloc | apply pw_below_drewN | apply below_drew1) | exact HB.out)⟩
                              · rw [if_neg c25] at H
                                have c25b0 : (t239.toList == t242.toList) = false := beq_eq_false_iff_ne.mpr c25
                                have c25b1 : (t239.toList != t242.toList) = true := bne_iff_ne.mpr c25
                                obtain rfl := Option.some.inj H
                                have p238 : 0 ≤ (x34_4 : Int) := of_decide_eq_true (by first | (with_reducible assumption) | assumption)
                                have q238 : x34_4 < (y235.length : Int) := of_decide_eq_true (by first | (with_reducible assumption) | assumption)
                                obtain ⟨ad238, e238, hx238_0⟩ := Kd.at_bool (Kd.R_reads' HO_32.out).2.2 x34_4 p238 q238
                                cases e238
                                replace p238 := eq_true p238
                                replace q238 := eq_true q238
                                go_wp2_with (first | ((with_reducible refine gate_callee (f := 22) rfl ?_); refine goesL_ (some 42) rfl rfl Tryd.func22 (by kernel_rfl) rfl #[.slice A0 l0.length c0, .int .i64 x5_11, .bool (rdOf false y235 x34_4)] rfl (by (try simp only [List.map_toArray, List.map_cons, List.map_nil]); first | done | rfl | (simp only [List.length_drop, List.length_take]; rfl)) ?_; (with_reducible refine (ref_Read.calls k4 _ _ l0 x5_11 (rdOf false y235 x34_4) t239 t240 t241 _ (Wok_below hW (by repeat (first | (with_reducible first | exact HB.out | apply below_alloc | apply pw_below_drewN | apply below_drew1) | exact HB.out))) ?side1 ?side2 A20.out).mono ?_); (case side1 => repeat (first | exact (Kd.C_below HR0.out HB.out) | (with_reducible refine Kd.C_alloc ?_ _) | (with_reducible refine Kd.C_drewN ?_ _) | (with_reducible refine Kd.C_drew ?_))); (case side2 => exact HC0.out); rintro e w32 ⟨rfl, hb⟩; refine ⟨_, rfl, ?_⟩; have n0_ := Aside0.mk (Kd.R_below (by (with_reducible repeat (first | apply Kd.R_alloc | apply Kd.R_drewN | apply Kd.R_drew)); exact HO_32.out) hb); have n1_ := Aside0.mk (below_step (by repeat (first | (with_reducible first | exact HB.out | apply below_alloc | apply pw_below_drewN | apply below_drew1) | exact HB.out)) hb); clear HO_32; clear HB; have HO_32 := n0_; have HB := n1_; clear n0_ n1_; (try clear hb); (try clear hb2); (try clear hk); (try clear hi)) | ((with_reducible refine gate_callee (f := 23) rfl ?_); refine goesL_ (some 50) rfl rfl Tryd.func23 (by kernel_rfl) rfl #[.slice A0 l0.length c0, .int .i64 x5_11, .bool (rdOf false y235 x34_4)] rfl (by (try simp only [List.map_toArray, List.map_cons, List.map_nil]); first | done | rfl | (simp only [List.length_drop, List.length_take]; rfl)) ?_; (with_reducible refine (decanterref05_Read.calls k4 _ _ l0 x5_11 (rdOf false y235 x34_4) t242 t243 _ (Wok_below hW (by repeat (first | (with_reducible first | exact HB.out | apply below_alloc | apply pw_below_drewN | apply below_drew1) | exact HB.out))) ?side1 ?side2 A21.out).mono ?_); (case side1 => repeat (first | exact (Kd.C_below HR0.out HB.out) | (with_reducible refine Kd.C_alloc ?_ _) | (with_reducible refine Kd.C_drewN ?_ _) | (with_reducible refine Kd.C_drew ?_))); (case side2 => exact HC0.out); rintro e w33 ⟨rfl, hb⟩; refine ⟨_, rfl, ?_⟩; have n0_ := Aside0.mk (Kd.R_below (by (with_reducible repeat (first | apply Kd.R_alloc | apply Kd.R_drewN | apply Kd.R_drew)); exact HO_32.out) hb); have n1_ := Aside0.mk (below_step (by repeat (first | (with_reducible first | exact HB.out | apply below_alloc | apply pw_below_drewN | apply below_drew1) | exact HB.out)) hb); clear HO_32; clear HB; have HO_32 := n0_; have HB := n1_; clear n0_ n1_; (try clear hb); (try clear hb2); (try clear hk); (try clear hi)))
                                go_ret
                                exact ⟨by first | rfl | (simp [errW_none, errW_some] <;> rfl) | (simp [*, errW_none, errW_some] <;> rfl), by repeat (first | (with_reducible first | exact HB.out | apply below_alloc | apply pw_below_drewN | apply below_drew1) | exact HB.out)⟩
                          · rw [if_neg c19] at H
                            exact absurd H (by simp)
                        · rw [if_neg c18] at H
                          exact absurd H (by simp)
                      · rw [if_neg c17] at H
                        have c17b0 : decide (x34_4 < (y235.length : Int)) = false := decide_eq_false c17
                        clear c17
                        have H' := Aside0.mk H
                        clear H
                        go_wp2
                        go_roundg k4
                        case measure => have := HJ2.out; have := HK2.out; have := HJ11.out; have := HK4.out; omega
                        case rel => exact ⟨(wrap64 (x24_2 + 1)), (by first | rfl | (simp; done) | (rw [Go.IntWalk.wrap64_in (x24_2 + 1) (by omega)]; done) | (rw [Go.IntWalk.wrap64_in (x24_2 + 1) (by omega)]; simp; done) | (simp [*]; done)), H', ⟨by have := HJ2.out; have := HK2.out; have := HJ11.out; have := HK4.out; omega⟩, ⟨by repeat (first | (with_reducible first | exact HB.out | apply below_alloc | apply pw_below_drewN | apply below_drew1) | exact HB.out)⟩⟩
            · rw [if_neg c11] at H
              have c11b0 : decide (x24_2 < (wrap64 ((l0.length : Int) + 1))) = false := decide_eq_false c11
              clear c11
              obtain rfl := Option.some.inj H
              go_wp2
              go_ret
              exact ⟨by first | rfl | (simp [errW_none, errW_some] <;> rfl) | (simp [*, errW_none, errW_some] <;> rfl), by repeat (first | (with_reducible first | exact HB.out | apply below_alloc | apply pw_below_drewN | apply below_drew1) | exact HB.out)⟩

/-- THE ONE PURE STATEMENT of decanterlaw05_RefReads: yours. -/
def decanterlaw05_RefReads.Pure : Prop := ∀ (l0 : List Int) (a1 : Int), l0.length ≤ maxLen → l0.length * 1 ≤ 140737488351232 → (∀ x ∈ l0, (Lit.int .u8 x).wf = true) → (Lit.int .i64 a1).wf = true → ∃ k, decanterlaw05_RefReads.f k l0 a1 = some true
theorem decanterlaw05_RefReads.walk (P : decanterlaw05_RefReads.Pure) (a0 : Option Addr) (len0 cap0 : Nat) (z0 : List Int) (a1 : Int) (w : World) (hW : Wok w) (w0 : (a0 = none ∧ len0 = 0 ∧ cap0 = 0 ∧ z0 = []) ∨ ∃ x, a0 = some x ∧ len0 ≤ cap0 ∧ cap0 ≤ maxLen ∧ z0.length = cap0 ∧ (∀ i, i < z0.length → w.cell? (x.add i) = some (.int .u8 (z0.getD i 0))) ∧ ∀ n ∈ z0, (Lit.int .u8 n).wf = true) (y0 : len0 * 1 ≤ 140737488351232) (w1 : (Lit.int .i64 a1).wf = true) :
    Calls Tryd.prog 8 #[.slice a0 len0 cap0, .int .i64 a1] w fun e w' => e = .returned (.bool true) ∧ Below w.heap.size w w' := by
  obtain ⟨l0, rfl, hr0, hm0, hw0, hc0⟩ := ReadsInt.ofRowC w0
  obtain ⟨k, h⟩ := P l0 a1 hm0 y0 hw0 w1
  refine (decanterlaw05_RefReads.calls k _ _ l0 a1 true w hW (Kd.C_of_reads (d := (0 : Int)) (h1 := fun _ => rfl) hr0) hc0 h).mono ?_
  rintro e w' ⟨rfl, hd⟩
  exact ⟨rfl, hd⟩

/-! ### char_All: function 21 -/
def char_All.runeB (r : Int) : List UInt8 := (Lib.encodeRuneZ r).map fun z => UInt8.ofNat z.toNat
theorem char_All.rune_cells (r : Int) : Lib.runeCells r = Lib.byteCells (char_All.runeB r) := by
  unfold Lib.runeCells Lib.byteCells char_All.runeB
  rw [List.map_map]
  refine List.map_congr_left fun z hz => ?_
  have h := Lib.encodeRuneZ_byte r z hz
  show Value.int .u8 z = Value.int .u8 ((UInt8.ofNat z.toNat).toNat : Int)
  rw [UInt8.toNat_ofNat']
  congr 1
  omega
theorem char_All.cells_app (a b : List UInt8) : Lib.byteCells (a ++ b) = Lib.byteCells a ++ Lib.byteCells b := by
  unfold Lib.byteCells
  rw [List.map_append]
def char_All.l0 : Nat → List Int → Int → Int → List UInt8 → Option ByteArray
  | 0, _, _, _, _ => none
  | k + 1, l, p, q, acc => if p < q then ((char_Next.f k l p).bind fun cn => if cn.2 = 0 then some ⟨acc.toArray⟩ else (if -2147483648 ≤ cn.1 ∧ cn.1 ≤ 2147483647 ∧ acc.length + 4 ≤ 140737488355328 then char_All.l0 k l (wrap64 (p + cn.2)) q (acc ++ char_All.runeB cn.1) else none)) else some ⟨acc.toArray⟩
def char_All.f (k : Nat) (l0 : List Int) (a1 a2 : Int) : Option ByteArray := char_All.l0 k l0 a1 a2 []
theorem char_All.mono_l : ∀ k y0 y1 y2 y3, LeO (char_All.l0 k y0 y1 y2 y3) (char_All.l0 (k + 1) y0 y1 y2 y3)
  | 0 => fun _ _ _ _ r h => by simp [char_All.l0] at h
  | k + 1 => by
    have ih0 := char_All.mono_l k
    intro y0 y1 y2 y3
    unfold char_All.l0
    repeat' first
      | (with_reducible exact ih0 _ _ _ _)
      | (with_reducible exact char_Next.mono _ _ _)
      | (with_reducible exact LeO.refl _)
      | (with_reducible exact LeO.none _)
      | (with_reducible refine LeO.ite ?_ ?_)
      | (with_reducible refine LeO.bind ?_ (fun _ => ?_))
theorem char_All.mono : ∀ a0 a1 a2 k, LeO (char_All.f k a0 a1 a2) (char_All.f (k + 1) a0 a1 a2) := fun a0 a1 a2 k => char_All.mono_l k a0 a1 a2 []
theorem char_All.builder_below {T e : TypeId} {B b : Nat} {bs : List Value} {w w1 : World} (h : Lib.IsBuilderF T e B b bs w) (hb : Below w.heap.size w w1) : Lib.IsBuilderF T e B b bs w1 := by
  have key : ∀ p, Lib.BuilderAtF T e B b p bs w → Lib.BuilderAtF T e B b p bs w1 := fun p hp => by
    have hlt := hp.lt
    obtain ⟨hB, v, hc, hown, hne⟩ := hp
    exact ⟨hB, v, (hb.block b hlt).trans hc, hown.kept (row := none) ⟨hb.os, hb.tape, hb.output, hb.size, fun k hk _ => hb.block k hk⟩ (by cases hv : v.ownBlock <;> simp), hne⟩
  exact h.imp (key _) (key _)
theorem char_All.builder_new (w : World) : Lib.IsBuilderF 62 5 w.heap.size w.heap.size [] (w.alloc (.cells #[.pointer none, .slice none 0 0] 62)) := Lib.IsBuilderF.of (Lib.fresh_isBuilder _ _ w)
theorem char_All.below_all {W w1 w2 : World} (h : Below W.heap.size W w1) (k : Below w1.heap.size w1 w2) : Below W.heap.size W w2 := h.trans (k.mono h.size)
set_option maxRecDepth 100000 in
set_option maxHeartbeats 4000000 in
theorem char_All.calls (k : Nat) (A0 : Option Addr) (c0 : Nat) (l0 : List Int) (a1 a2 : Int) (r : ByteArray) (w : World) (hW : Wok w) (hr0 : Kd.C (Kd.int .u8) w A0 l0.length l0) (hc0 : l0.length ≤ c0) (h : char_All.f k l0 a1 a2 = some r) :
    Calls Tryd.prog 21 #[.slice A0 l0.length c0, .int .i64 a1, .int .i64 a2] w fun e w' => e = .returned (.string r) ∧ Below w.heap.size w w' := by
  have HW := Lib.hid hW
  have HR := Lib.hid hr0
  have HC := Lib.hid hc0
  have HN := Lib.hid (char_All.builder_new w)
  have H0 := Lib.hid h
  clear hW hr0 hc0 h
  go_enter Tryd.func21, Tryd.ntmps21
  go_wp2
  go_loopg [8] k (fun gg s8 wr => ∃ (p : Int) (acc : List UInt8) (j : Nat), j ≤ gg ∧ s8 = .int .i64 p ∧ Hid (char_All.l0 j l0 p a2 acc = some r) ∧ Hid (Lib.IsBuilderF 62 5 w.heap.size w.heap.size (Lib.byteCells acc) wr) ∧ Hid (Below w.heap.size w wr))
  case atStart => exact ⟨a1, [], k, Nat.le_refl _, rfl, H0.out, HN.out, (Below.refl _ _).alloc (Nat.le_refl _) _⟩
  case round =>
    clear H0 HN
    obtain ⟨p, acc, j, hj, rfl, HL, HI, HB⟩ := hrel
    cases j with
    | zero => exact absurd HL.out (by simp [char_All.l0])
    | succ j =>
      have hl := HL.out
      clear HL
      rw [char_All.l0] at hl
      by_cases c1 : p < a2
      · rw [if_pos c1] at hl
        obtain ⟨cn, hN, hl⟩ := Option.bind_eq_some_iff.1 hl
        obtain ⟨c, n⟩ := cn
        dsimp only at hl
        have HNx := Lib.hid hN
        clear hN
        by_cases c2 : n = 0
        · subst c2
          rw [if_pos rfl] at hl
          obtain rfl := Option.some.inj hl
          clear hl
          go_wp2_with (first | (go_at_call 31; refine (char_Next.calls j A0 c0 l0 p c 0 _ (Wok_below HW.out HB.out) (Kd.C_below HR.out HB.out) HC.out HNx.out).mono ?_; rintro e w1 ⟨rfl, hb1⟩) | (go_at_call 33; refine (Tryd.Builder_String_any_k w.heap.size w.heap.size acc _ (char_All.builder_below HI.out hb1) (Nat.le_trans HB.out.size hb1.size)).mono ?_; rintro e w2 ⟨rfl, hi2, hb2, ho2⟩))
          go_ret
          exact ⟨rfl, (char_All.below_all HB.out hb1).trans hb2⟩
        · rw [if_neg c2] at hl
          by_cases c3 : -2147483648 ≤ c ∧ c ≤ 2147483647 ∧ acc.length + 4 ≤ 140737488355328
          · rw [if_pos c3] at hl
            obtain ⟨c3, c4, c5⟩ := c3
            have hcl : (Lib.byteCells acc).length + 4 ≤ 140737488355328 := by rw [Lib.byteCells_length]; exact c5
            have HCL := Lib.hid hcl
            have H3 := Lib.hid c3
            have H4 := Lib.hid c4
            have HLx := Lib.hid hl
            have c2b : (n == 0) = false := by simpa using c2
            clear c3 c4 c5 hcl hl
            go_wp2_with (first | (go_at_call 31; refine (char_Next.calls j A0 c0 l0 p c n _ (Wok_below HW.out HB.out) (Kd.C_below HR.out HB.out) HC.out HNx.out).mono ?_; rintro e w1 ⟨rfl, hb1⟩) | (go_at_call 32; refine (Tryd.Builder_WriteRune_k w.heap.size w.heap.size (Lib.byteCells acc) c H3.out H4.out _ (char_All.builder_below HI.out hb1) HCL.out (Nat.le_trans HB.out.size hb1.size)).mono ?_; rintro e w2 ⟨rfl, hi2, hb2, ho2⟩))
            go_roundg j
            case measure => omega
            case rel => exact ⟨_, acc ++ char_All.runeB c, j, Nat.le_refl _, rfl, HLx.out, .inr (by rw [char_All.cells_app, ← char_All.rune_cells]; exact hi2), (char_All.below_all HB.out hb1).trans hb2⟩
          · rw [if_neg c3] at hl
            cases hl
      · rw [if_neg c1] at hl
        obtain rfl := Option.some.inj hl
        clear hl
        go_wp2_with (go_at_call 33; refine (Tryd.Builder_String_any_k w.heap.size w.heap.size acc _ HI.out HB.out.size).mono ?_; rintro e w2 ⟨rfl, hi2, hb2, ho2⟩)
        go_ret
        exact ⟨rfl, HB.out.trans hb2⟩

-- NOT PRINTED: function 7 (decanterlaw05_RefPlain)

-- NOT PRINTED: function 11 (decanterlaw05_RefNumbers)

end Go.Proofs.YtnmjocoopbfpnaaDoor.PRefA
