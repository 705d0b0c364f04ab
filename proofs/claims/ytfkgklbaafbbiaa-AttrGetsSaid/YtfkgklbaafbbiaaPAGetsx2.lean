-- Laid by a program of this session (tools/patch_print.py) out of the translation. Not trusted: Lean checks it.
import Derived.Test.YtfkgklbaafbbiaaPAGetsx0
import Derived.Test.YtfkgklbaafbbiaaPAGetsx1
namespace Go.Proofs.Ytfkgklbaafbbiaa.PAGets
open Go.RowKit Go.Proofs.YtfkgklbaafbbiaaW.PrintWords Go.Proofs.YtfkgklbaafbbiaaW.PrintLast Go.Proofs.YtfkgklbaafbbiaaW.PrintMore
attribute [local go_sem] max2_int min2_int max_two min_two max_three min_three max_four min_four   -- for this text's walks alone
set_option linter.unusedVariables false
set_option linter.unusedSimpArgs false

/-! ### decanterlaw06_AttrGets: function 6 -/
mutual
def decanterlaw06_AttrGets.j0 : Nat → List (S38) → ByteArray → Bool → ByteArray → ByteArray → Option (Bool)
  | 0, _, _, _, _, _ => none
  | k + 1, x0, x2, x21, x129000, x129001 => if x21 = true then ((decanterlaw06_speaks.f).bind fun t130 => (some t130)) else ((decanterlaw06_Of.f k x0).bind fun t131 => ((attr_Get.f t131 x129000).bind fun bt134 => ((attr_Add.f t131 x129000 x129001).bind fun t136 => ((attr_Get.f t136 x129000).bind fun bt139 => (if bt139.2 = true then (if bt134.2 = true then (if bt139.1.toList = bt134.1.toList then (if (t136.length : Int) < (t131.length : Int) then (decanterlaw06_AttrGets.j1 k x2 t131 t136 true x129000 x129001) else (decanterlaw06_AttrGets.j1 k x2 t131 t136 (decide ((t136.length : Int) > (wrap64 ((t131.length : Int) + 1)))) x129000 x129001)) else (decanterlaw06_AttrGets.j1 k x2 t131 t136 true x129000 x129001)) else (if bt139.1.toList = x129001.toList then (if (t136.length : Int) < (t131.length : Int) then (decanterlaw06_AttrGets.j1 k x2 t131 t136 true x129000 x129001) else (decanterlaw06_AttrGets.j1 k x2 t131 t136 (decide ((t136.length : Int) > (wrap64 ((t131.length : Int) + 1)))) x129000 x129001)) else (decanterlaw06_AttrGets.j1 k x2 t131 t136 true x129000 x129001))) else (decanterlaw06_AttrGets.j1 k x2 t131 t136 true x129000 x129001))))))
def decanterlaw06_AttrGets.j1 : Nat → ByteArray → List (S37) → List (S37) → Bool → ByteArray → ByteArray → Option (Bool)
  | 0, _, _, _, _, _, _ => none
  | k + 1, x2, x7, x10, x76, x129000, x129001 => if x76 = true then (some false) else (if x2.toList = x129000.toList then (some true) else ((attr_Get.f x10 x2).bind fun bt141 => ((attr_Get.f x7 x2).bind fun bt143 => (if bt141.1.toList = bt143.1.toList then (some (bt141.2 == bt143.2)) else (some false)))))
end
def decanterlaw06_AttrGets.f (k : Nat) (l0 : List (S38)) (a1_0 : ByteArray) (a1_1 : ByteArray) (a2 : ByteArray) : Option (Bool) := (decanterlaw06_speaks.f).bind fun t129 => (if t129 = true then (decanterlaw06_AttrGets.j0 k l0 a2 (decide ((l0.length : Int) > 30)) a1_0 a1_1) else (decanterlaw06_AttrGets.j0 k l0 a2 true a1_0 a1_1))
theorem decanterlaw06_AttrGets.mono_l : ∀ k, (∀ y0 y1 y2 y3 y4, LeO (decanterlaw06_AttrGets.j0 k y0 y1 y2 y3 y4) (decanterlaw06_AttrGets.j0 (k + 1) y0 y1 y2 y3 y4)) ∧ (∀ y0 y1 y2 y3 y4 y5, LeO (decanterlaw06_AttrGets.j1 k y0 y1 y2 y3 y4 y5) (decanterlaw06_AttrGets.j1 (k + 1) y0 y1 y2 y3 y4 y5))
  | 0 => ⟨fun _ _ _ _ _ r h => by simp [decanterlaw06_AttrGets.j0] at h, fun _ _ _ _ _ _ r h => by simp [decanterlaw06_AttrGets.j1] at h⟩
  | k + 1 => by
    obtain ⟨ih0, ih1⟩ := decanterlaw06_AttrGets.mono_l k
    refine ⟨?_, ?_⟩
    · intro y0 y1 y2 y3 y4
      unfold decanterlaw06_AttrGets.j0
      repeat' first
      | (with_reducible exact ih0 _ _ _ _ _)
      | (with_reducible exact ih1 _ _ _ _ _ _)
      | (with_reducible exact decanterlaw06_Of.mono _ _)
      | (with_reducible exact LeO.refl _)
      | (with_reducible exact LeO.none _)
      | (with_reducible refine LeO.ite ?_ ?_)
      | (with_reducible refine LeO.bind ?_ (fun _ => ?_))
      | exact ih0 _ _ _ _ _
      | exact ih1 _ _ _ _ _ _
      | exact decanterlaw06_Of.mono _ _
      | exact LeO.none _
      | refine LeO.ite ?_ ?_
      | refine LeO.bind ?_ (fun _ => ?_)
    · intro y0 y1 y2 y3 y4 y5
      unfold decanterlaw06_AttrGets.j1
      repeat' first
      | (with_reducible exact ih0 _ _ _ _ _)
      | (with_reducible exact ih1 _ _ _ _ _ _)
      | (with_reducible exact decanterlaw06_Of.mono _ _)
      | (with_reducible exact LeO.refl _)
      | (with_reducible exact LeO.none _)
      | (with_reducible refine LeO.ite ?_ ?_)
      | (with_reducible refine LeO.bind ?_ (fun _ => ?_))
      | exact ih0 _ _ _ _ _
      | exact ih1 _ _ _ _ _ _
      | exact decanterlaw06_Of.mono _ _
      | exact LeO.none _
      | refine LeO.ite ?_ ?_
      | refine LeO.bind ?_ (fun _ => ?_)
theorem decanterlaw06_AttrGets.mono : ∀ a0 a1 a2 a3 k, LeO (decanterlaw06_AttrGets.f k a0 a1 a2 a3) (decanterlaw06_AttrGets.f (k + 1) a0 a1 a2 a3) := by
  intro a0 a1 a2 a3 k
  obtain ⟨ih0, ih1⟩ := decanterlaw06_AttrGets.mono_l k
  unfold decanterlaw06_AttrGets.f
  repeat' first
      | (with_reducible exact ih0 _ _ _ _ _)
      | (with_reducible exact ih1 _ _ _ _ _ _)
      | (with_reducible exact decanterlaw06_Of.mono _ _)
      | (with_reducible exact LeO.refl _)
      | (with_reducible exact LeO.none _)
      | (with_reducible refine LeO.ite ?_ ?_)
      | (with_reducible refine LeO.bind ?_ (fun _ => ?_))
      | exact ih0 _ _ _ _ _
      | exact ih1 _ _ _ _ _ _
      | exact decanterlaw06_Of.mono _ _
      | exact LeO.none _
      | refine LeO.ite ?_ ?_
      | refine LeO.bind ?_ (fun _ => ?_)
set_option maxHeartbeats 8000000 in
set_option maxRecDepth 100000 in
theorem decanterlaw06_AttrGets.calls (k : Nat) (A0 : Option Addr) (c0 : Nat) (l0 : List (S38)) (a1_0 : ByteArray) (a1_1 : ByteArray) (a2 : ByteArray) (r : Bool) (w : World) (hr0 : Kd.C k38 w A0 l0.length l0) (hc0 : l0.length ≤ c0) (h : decanterlaw06_AttrGets.f k l0 a1_0 a1_1 a2 = some r) :
    Calls Try.prog 6 #[.slice A0 l0.length c0, .agg #[.string a1_0, .string a1_1], .string a2] w fun e w' => e = .returned (.bool r) ∧ Below w.heap.size w w' := by
  have hu38 := Try.underlying38
  have HR0 := Aside0.mk hr0
  have HC0 := Aside0.mk hc0
  clear hr0 hc0
  have HB := Aside0.mk (Below.refl w.heap.size w)
  have H : ((decanterlaw06_speaks.f).bind fun t129 => (if t129 = true then (decanterlaw06_AttrGets.j0 k l0 a2 (decide ((l0.length : Int) > 30)) a1_0 a1_1) else (decanterlaw06_AttrGets.j0 k l0 a2 true a1_0 a1_1))) = some r := h
  clear h
  have HC4 := Aside0.mk H
  clear H
  go_enter Try.func6, Try.ntmps6
  go_upto_region 1 with (first | ((with_reducible refine gate_dst (N := 4) rfl ?_); (try (refine gate_guard (by rfl) ?_; dsimp only)); refine box_event ?hg (N := 4) ?hd (cs := #[.string a1_0, .string a1_1]) (t := 38) ?hr ?_; (case hd => rfl); (case hg => rfl); (case hr => first | (go_simp; done) | (go_simp; rfl)); intro gb128 hg w5 hbox hb; have n0_ := Aside0.mk (below_step (by repeat (first | (with_reducible first | exact HB.out | apply below_alloc | apply pw_below_drewN | apply below_drew1) | exact HB.out)) hb); have n1_ := Aside0.mk (hbox); have n2_ := Aside0.mk ((by rw [hg]; exact (below_size (by repeat (first | (with_reducible first | exact HB.out | apply below_alloc | apply pw_below_drewN | apply below_drew1) | exact HB.out))) : w.heap.size ≤ gb128)); have n3_ := Aside0.mk ((by rw [hg]; exact (below_size (by repeat (first | (with_reducible first | exact HB.out | apply below_alloc | apply pw_below_drewN | apply below_drew1) | exact HB.out))) : w.heap.size ≤ gb128)); clear HB; have HB := n0_; have BK128 := n1_; have GW128 := n2_; have GE128 := n3_; clear n0_ n1_ n2_ n3_; clear hb hbox hg))
  (try simp only [Act.put, List.setIfInBounds_toArray, List.set_cons_zero, List.set_cons_succ])
  go_cut [21] (fun v21 wc => ∃ (kq : Nat) (x21_3 : Bool), v21 = .bool x21_3 ∧ Aside0 (decanterlaw06_AttrGets.j0 kq l0 a2 x21_3 a1_0 a1_1 = some r) ∧ Aside0 (kq ≤ k) ∧ Aside0 (wc.heap[gb128]? = some (.cells #[.string a1_0, .string a1_1] 38 (0, 0))) ∧ Aside0 (Below w.heap.size w wc))
  case first =>
    have H := HC4.out
    clear HC4
    replace H := Option.bind_eq_some_iff.mp H
    obtain ⟨t129, A60, H⟩ := H
    replace H : (if t129 = true then (decanterlaw06_AttrGets.j0 k l0 a2 (decide ((l0.length : Int) > 30)) a1_0 a1_1) else (decanterlaw06_AttrGets.j0 k l0 a2 true a1_0 a1_1)) = some r := H
    have A6 := Aside0.mk A60
    clear A60
    by_cases c7 : t129 = true
    · subst c7
      have H1 : (decanterlaw06_AttrGets.j0 k l0 a2 (decide ((l0.length : Int) > 30)) a1_0 a1_1) = some r := by rw [if_pos rfl] at H; exact H
      clear H
      have H := H1
      clear H1
      have H' := Aside0.mk H
      clear H
      go_wp2_with (first | ((with_reducible refine gate_callee (f := 13) rfl ?_); refine goesL_ (some 15) rfl rfl Try.func13 (by kernel_rfl) rfl #[] rfl (by (try simp only [List.map_toArray, List.map_cons, List.map_nil]); first | done | rfl | (simp only [List.length_drop, List.length_take]; rfl)) ?_; (with_reducible refine (decanterlaw06_speaks.calls  true _ A6.out).mono ?_); rintro e w8 ⟨rfl, hb⟩; refine ⟨_, rfl, ?_⟩; have n0_ := Aside0.mk (blk_below (g := gb128) (o := .cells #[.string a1_0, .string a1_1] 38 (0, 0)) (by (with_reducible repeat (first | refine blk_drewN ?_ _ | refine blk_drew ?_ | refine blk_alloc ?_ _)); exact BK128.out) hb); have n1_ := Aside0.mk (below_step (by repeat (first | (with_reducible first | exact HB.out | apply below_alloc | apply pw_below_drewN | apply below_drew1 | refine below_set ?_ GE128.out) | exact HB.out)) hb); clear BK128; clear HB; have BK128 := n0_; have HB := n1_; clear n0_ n1_; (try clear hb); (try clear hb2); (try clear hk); (try clear hi)))
      go_meet
      case rel => exact ⟨_, (decide ((l0.length : Int) > 30)), (by first | rfl | (simp; done) | (simp [*]; done)), H', ⟨by first | omega | exact Nat.le_refl _⟩, ⟨by (with_reducible repeat (first | refine blk_drewN ?_ _ | refine blk_drew ?_ | refine blk_alloc ?_ _)); exact BK128.out⟩, ⟨by repeat (first | (with_reducible first | exact HB.out | apply below_alloc | apply pw_below_drewN | apply below_drew1 | refine below_set ?_ GE128.out) | exact HB.out)⟩⟩
    · replace c7 := Bool.eq_false_iff.mpr c7
      subst c7
      have H1 : (decanterlaw06_AttrGets.j0 k l0 a2 true a1_0 a1_1) = some r := by rw [if_neg (show ¬ (false = true) by decide)] at H; exact H
      clear H
      have H := H1
      clear H1
      have H' := Aside0.mk H
      clear H
      go_wp2_with (first | ((with_reducible refine gate_callee (f := 13) rfl ?_); refine goesL_ (some 15) rfl rfl Try.func13 (by kernel_rfl) rfl #[] rfl (by (try simp only [List.map_toArray, List.map_cons, List.map_nil]); first | done | rfl | (simp only [List.length_drop, List.length_take]; rfl)) ?_; (with_reducible refine (decanterlaw06_speaks.calls  false _ A6.out).mono ?_); rintro e w9 ⟨rfl, hb⟩; refine ⟨_, rfl, ?_⟩; have n0_ := Aside0.mk (blk_below (g := gb128) (o := .cells #[.string a1_0, .string a1_1] 38 (0, 0)) (by (with_reducible repeat (first | refine blk_drewN ?_ _ | refine blk_drew ?_ | refine blk_alloc ?_ _)); exact BK128.out) hb); have n1_ := Aside0.mk (below_step (by repeat (first | (with_reducible first | exact HB.out | apply below_alloc | apply pw_below_drewN | apply below_drew1 | refine below_set ?_ GE128.out) | exact HB.out)) hb); clear BK128; clear HB; have BK128 := n0_; have HB := n1_; clear n0_ n1_; (try clear hb); (try clear hb2); (try clear hk); (try clear hi)))
      go_meet
      case rel => exact ⟨_, (true), (by first | rfl | (simp; done) | (simp [*]; done)), H', ⟨by first | omega | exact Nat.le_refl _⟩, ⟨by (with_reducible repeat (first | refine blk_drewN ?_ _ | refine blk_drew ?_ | refine blk_alloc ?_ _)); exact BK128.out⟩, ⟨by repeat (first | (with_reducible first | exact HB.out | apply below_alloc | apply pw_below_drewN | apply below_drew1 | refine below_set ?_ GE128.out) | exact HB.out)⟩⟩
  case rest =>
    clear HC4
    try clear c1
    try clear p2
    try clear c6
    try clear c7
    obtain ⟨kq, x21_3, rfl, HA, HJ3, BK128, HB⟩ := hcut
    cases kq with
    | zero => exact absurd HA.out (by simp [decanterlaw06_AttrGets.j0])
    | succ kj3 =>
      have H := HA.out
      clear HA
      simp only [decanterlaw06_AttrGets.j0] at H
      by_cases c10 : x21_3 = true
      · subst c10
        have H1 : ((decanterlaw06_speaks.f).bind fun t130 => (some t130)) = some r := by rw [if_pos rfl] at H; exact H
        clear H
        have H := H1
        clear H1
        replace H := Option.bind_eq_some_iff.mp H
        obtain ⟨t130, A110, H⟩ := H
        replace H : (some t130) = some r := H
        have A11 := Aside0.mk A110
        clear A110
        obtain rfl := Option.some.inj H
        go_wp2_with (first | ((with_reducible refine gate_callee (f := 13) rfl ?_); refine goesL_ (some 22) rfl rfl Try.func13 (by kernel_rfl) rfl #[] rfl (by (try simp only [List.map_toArray, List.map_cons, List.map_nil]); first | done | rfl | (simp only [List.length_drop, List.length_take]; rfl)) ?_; (with_reducible refine (decanterlaw06_speaks.calls  t130 _ A11.out).mono ?_); rintro e w12 ⟨rfl, hb⟩; refine ⟨_, rfl, ?_⟩; have n0_ := Aside0.mk (blk_below (g := gb128) (o := .cells #[.string a1_0, .string a1_1] 38 (0, 0)) (by (with_reducible repeat (first | refine blk_drewN ?_ _ | refine blk_drew ?_ | refine blk_alloc ?_ _)); exact BK128.out) hb); have n1_ := Aside0.mk (below_step (by repeat (first | (with_reducible first | exact HB.out | apply below_alloc | apply pw_below_drewN | apply below_drew1 | refine below_set ?_ GE128.out) | exact HB.out)) hb); clear BK128; clear HB; have BK128 := n0_; have HB := n1_; clear n0_ n1_; (try clear hb); (try clear hb2); (try clear hk); (try clear hi)))
        go_ret
        exact ⟨by first | rfl | (simp [errW_none, errW_some] <;> rfl) | (simp [*, errW_none, errW_some] <;> rfl), by repeat (first | (with_reducible first | exact HB.out | apply below_alloc | apply pw_below_drewN | apply below_drew1 | refine below_set ?_ GE128.out) | exact HB.out)⟩
      · replace c10 := Bool.eq_false_iff.mpr c10
        subst c10
        have H1 : ((decanterlaw06_Of.f kj3 l0).bind fun t131 => ((attr_Get.f t131 a1_0).bind fun bt134 => ((attr_Add.f t131 a1_0 a1_1).bind fun t136 => ((attr_Get.f t136 a1_0).bind fun bt139 => (if bt139.2 = true then (if bt134.2 = true then (if bt139.1.toList = bt134.1.toList then (if (t136.length : Int) < (t131.length : Int) then (decanterlaw06_AttrGets.j1 kj3 a2 t131 t136 true a1_0 a1_1) else (decanterlaw06_AttrGets.j1 kj3 a2 t131 t136 (decide ((t136.length : Int) > (wrap64 ((t131.length : Int) + 1)))) a1_0 a1_1)) else (decanterlaw06_AttrGets.j1 kj3 a2 t131 t136 true a1_0 a1_1)) else (if bt139.1.toList = a1_1.toList then (if (t136.length : Int) < (t131.length : Int) then (decanterlaw06_AttrGets.j1 kj3 a2 t131 t136 true a1_0 a1_1) else (decanterlaw06_AttrGets.j1 kj3 a2 t131 t136 (decide ((t136.length : Int) > (wrap64 ((t131.length : Int) + 1)))) a1_0 a1_1)) else (decanterlaw06_AttrGets.j1 kj3 a2 t131 t136 true a1_0 a1_1))) else (decanterlaw06_AttrGets.j1 kj3 a2 t131 t136 true a1_0 a1_1)))))) = some r := by rw [if_neg (show ¬ (false = true) by decide)] at H; exact H
        clear H
        have H := H1
        clear H1
        replace H := Option.bind_eq_some_iff.mp H
        obtain ⟨t131, A130, H⟩ := H
        replace H : ((attr_Get.f t131 a1_0).bind fun bt134 => ((attr_Add.f t131 a1_0 a1_1).bind fun t136 => ((attr_Get.f t136 a1_0).bind fun bt139 => (if bt139.2 = true then (if bt134.2 = true then (if bt139.1.toList = bt134.1.toList then (if (t136.length : Int) < (t131.length : Int) then (decanterlaw06_AttrGets.j1 kj3 a2 t131 t136 true a1_0 a1_1) else (decanterlaw06_AttrGets.j1 kj3 a2 t131 t136 (decide ((t136.length : Int) > (wrap64 ((t131.length : Int) + 1)))) a1_0 a1_1)) else (decanterlaw06_AttrGets.j1 kj3 a2 t131 t136 true a1_0 a1_1)) else (if bt139.1.toList = a1_1.toList then (if (t136.length : Int) < (t131.length : Int) then (decanterlaw06_AttrGets.j1 kj3 a2 t131 t136 true a1_0 a1_1) else (decanterlaw06_AttrGets.j1 kj3 a2 t131 t136 (decide ((t136.length : Int) > (wrap64 ((t131.length : Int) + 1)))) a1_0 a1_1)) else (decanterlaw06_AttrGets.j1 kj3 a2 t131 t136 true a1_0 a1_1))) else (decanterlaw06_AttrGets.j1 kj3 a2 t131 t136 true a1_0 a1_1))))) = some r := H
        have A13 := Aside0.mk A130
        clear A130
        replace H := Option.bind_eq_some_iff.mp H
        obtain ⟨⟨t134, t135⟩, A140, H⟩ := H
        replace H : ((attr_Add.f t131 a1_0 a1_1).bind fun t136 => ((attr_Get.f t136 a1_0).bind fun bt139 => (if bt139.2 = true then (if t135 = true then (if bt139.1.toList = t134.toList then (if (t136.length : Int) < (t131.length : Int) then (decanterlaw06_AttrGets.j1 kj3 a2 t131 t136 true a1_0 a1_1) else (decanterlaw06_AttrGets.j1 kj3 a2 t131 t136 (decide ((t136.length : Int) > (wrap64 ((t131.length : Int) + 1)))) a1_0 a1_1)) else (decanterlaw06_AttrGets.j1 kj3 a2 t131 t136 true a1_0 a1_1)) else (if bt139.1.toList = a1_1.toList then (if (t136.length : Int) < (t131.length : Int) then (decanterlaw06_AttrGets.j1 kj3 a2 t131 t136 true a1_0 a1_1) else (decanterlaw06_AttrGets.j1 kj3 a2 t131 t136 (decide ((t136.length : Int) > (wrap64 ((t131.length : Int) + 1)))) a1_0 a1_1)) else (decanterlaw06_AttrGets.j1 kj3 a2 t131 t136 true a1_0 a1_1))) else (decanterlaw06_AttrGets.j1 kj3 a2 t131 t136 true a1_0 a1_1)))) = some r := H
        have A14 := Aside0.mk A140
        clear A140
        replace H := Option.bind_eq_some_iff.mp H
        obtain ⟨t136, A150, H⟩ := H
        replace H : ((attr_Get.f t136 a1_0).bind fun bt139 => (if bt139.2 = true then (if t135 = true then (if bt139.1.toList = t134.toList then (if (t136.length : Int) < (t131.length : Int) then (decanterlaw06_AttrGets.j1 kj3 a2 t131 t136 true a1_0 a1_1) else (decanterlaw06_AttrGets.j1 kj3 a2 t131 t136 (decide ((t136.length : Int) > (wrap64 ((t131.length : Int) + 1)))) a1_0 a1_1)) else (decanterlaw06_AttrGets.j1 kj3 a2 t131 t136 true a1_0 a1_1)) else (if bt139.1.toList = a1_1.toList then (if (t136.length : Int) < (t131.length : Int) then (decanterlaw06_AttrGets.j1 kj3 a2 t131 t136 true a1_0 a1_1) else (decanterlaw06_AttrGets.j1 kj3 a2 t131 t136 (decide ((t136.length : Int) > (wrap64 ((t131.length : Int) + 1)))) a1_0 a1_1)) else (decanterlaw06_AttrGets.j1 kj3 a2 t131 t136 true a1_0 a1_1))) else (decanterlaw06_AttrGets.j1 kj3 a2 t131 t136 true a1_0 a1_1))) = some r := H
        have A15 := Aside0.mk A150
        clear A150
        replace H := Option.bind_eq_some_iff.mp H
        obtain ⟨⟨t139, t140⟩, A160, H⟩ := H
        replace H : (if t140 = true then (if t135 = true then (if t139.toList = t134.toList then (if (t136.length : Int) < (t131.length : Int) then (decanterlaw06_AttrGets.j1 kj3 a2 t131 t136 true a1_0 a1_1) else (decanterlaw06_AttrGets.j1 kj3 a2 t131 t136 (decide ((t136.length : Int) > (wrap64 ((t131.length : Int) + 1)))) a1_0 a1_1)) else (decanterlaw06_AttrGets.j1 kj3 a2 t131 t136 true a1_0 a1_1)) else (if t139.toList = a1_1.toList then (if (t136.length : Int) < (t131.length : Int) then (decanterlaw06_AttrGets.j1 kj3 a2 t131 t136 true a1_0 a1_1) else (decanterlaw06_AttrGets.j1 kj3 a2 t131 t136 (decide ((t136.length : Int) > (wrap64 ((t131.length : Int) + 1)))) a1_0 a1_1)) else (decanterlaw06_AttrGets.j1 kj3 a2 t131 t136 true a1_0 a1_1))) else (decanterlaw06_AttrGets.j1 kj3 a2 t131 t136 true a1_0 a1_1)) = some r := H
        have A16 := Aside0.mk A160
        clear A160
        have HC17 := Aside0.mk H
        clear H
        go_upto_region 7 with (first | ((with_reducible refine gate_callee (f := 17) rfl ?_); refine goesL_ (some 24) rfl rfl Try.func17 (by kernel_rfl) rfl #[.slice A0 l0.length c0] rfl (by (try simp only [List.map_toArray, List.map_cons, List.map_nil]); first | done | rfl | (simp only [List.length_drop, List.length_take]; rfl)) ?_; (with_reducible refine (decanterlaw06_Of.calls kj3 _ _ l0 t131 _ ?side1 ?side2 A13.out).mono ?_); (case side1 => repeat (first | exact (Kd.C_below HR0.out HB.out) | (with_reducible refine Kd.C_alloc ?_ _) | (with_reducible refine Kd.C_drewN ?_ _) | (with_reducible refine Kd.C_drew ?_))); (case side2 => exact HC0.out); rintro e w18 ⟨v132, rfl, ho0, hb⟩; refine ⟨_, rfl, ?_⟩; have n0_ := Aside0.mk (Kd.R_lower ho0 (below_size (by repeat (first | (with_reducible first | exact HB.out | apply below_alloc | apply pw_below_drewN | apply below_drew1 | refine below_set ?_ GE128.out) | exact HB.out)))); have n1_ := Aside0.mk (blk_below (g := gb128) (o := .cells #[.string a1_0, .string a1_1] 38 (0, 0)) (by (with_reducible repeat (first | refine blk_drewN ?_ _ | refine blk_drew ?_ | refine blk_alloc ?_ _)); exact BK128.out) hb); have n2_ := Aside0.mk (below_step (by repeat (first | (with_reducible first | exact HB.out | apply below_alloc | apply pw_below_drewN | apply below_drew1 | refine below_set ?_ GE128.out) | exact HB.out)) hb); clear BK128; clear HB; have HO133 := n0_; have BK128 := n1_; have HB := n2_; clear n0_ n1_ n2_; (try clear hb); (try clear hb2); (try clear hk); (try clear hi); (try clear ho0); have hcz19_0 : w18.cell? ⟨gb128, 0, none⟩ = some (.string a1_0) := (blk_cell BK128.out 0).trans rfl; have hcz19_1 : w18.cell? ⟨gb128, 1, none⟩ = some (.string a1_1) := (blk_cell BK128.out 1).trans rfl; have hfz19_0 := blk_frozen BK128.out 0; have hfz19_1 := blk_frozen BK128.out 1; obtain ⟨Ao20, co20, eo20⟩ := Kd.R_slice HO133.out; subst eo20) | ((with_reducible refine gate_callee (f := 18) rfl ?_); refine goesL_ (some 29) rfl rfl Try.func18 (by kernel_rfl) rfl #[.slice Ao20 t131.length co20, .string a1_0] rfl (by (try simp only [List.map_toArray, List.map_cons, List.map_nil]); first | done | rfl | (simp only [List.length_drop, List.length_take]; rfl)) ?_; (with_reducible refine (attr_Get.calls _ _ t131 a1_0 t134 t135 _ ?side1 ?side2 A14.out).mono ?_); (case side1 => repeat (first | exact (Kd.R_reads' HO133.out).2.2 | (with_reducible refine Kd.C_alloc ?_ _) | (with_reducible refine Kd.C_drewN ?_ _) | (with_reducible refine Kd.C_drew ?_))); (case side2 => exact (Kd.R_reads' HO133.out).2.1); rintro e w21 ⟨rfl, hb⟩; refine ⟨_, rfl, ?_⟩; have n0_ := Aside0.mk (Kd.R_below (by (with_reducible repeat (first | apply Kd.R_alloc | apply Kd.R_drewN | apply Kd.R_drew)); exact HO133.out) hb); have n1_ := Aside0.mk (blk_below (g := gb128) (o := .cells #[.string a1_0, .string a1_1] 38 (0, 0)) (by (with_reducible repeat (first | refine blk_drewN ?_ _ | refine blk_drew ?_ | refine blk_alloc ?_ _)); exact BK128.out) hb); have n2_ := Aside0.mk (below_step (by repeat (first | (with_reducible first | exact HB.out | apply below_alloc | apply pw_below_drewN | apply below_drew1 | refine below_set ?_ GE128.out) | exact HB.out)) hb); clear HO133; clear BK128; clear HB; have HO133 := n0_; have BK128 := n1_; have HB := n2_; clear n0_ n1_ n2_; (try clear hb); (try clear hb2); (try clear hk); (try clear hi); have hcz22_0 : w21.cell? ⟨gb128, 0, none⟩ = some (.string a1_0) := (blk_cell BK128.out 0).trans rfl; have hcz22_1 : w21.cell? ⟨gb128, 1, none⟩ = some (.string a1_1) := (blk_cell BK128.out 1).trans rfl; have hfz22_0 := blk_frozen BK128.out 0; have hfz22_1 := blk_frozen BK128.out 1) | ((with_reducible refine gate_callee (f := 14) rfl ?_); refine goesL_ (some 34) rfl rfl Try.func14 (by kernel_rfl) rfl #[.slice Ao20 t131.length co20, .agg #[.string a1_0, .string a1_1]] rfl (by (try simp only [List.map_toArray, List.map_cons, List.map_nil]); first | done | rfl | (simp only [List.length_drop, List.length_take]; rfl)) ?_; (with_reducible refine (attr_Add.calls _ _ t131 a1_0 a1_1 t136 _ ?side1 ?side2 A15.out).mono ?_); (case side1 => repeat (first | exact (Kd.R_reads' HO133.out).2.2 | (with_reducible refine Kd.C_alloc ?_ _) | (with_reducible refine Kd.C_drewN ?_ _) | (with_reducible refine Kd.C_drew ?_))); (case side2 => exact (Kd.R_reads' HO133.out).2.1); rintro e w23 ⟨v137, rfl, ho0, hb⟩; refine ⟨_, rfl, ?_⟩; have n0_ := Aside0.mk (Kd.R_elder' (by (with_reducible repeat (first | apply Kd.R_alloc | apply Kd.R_drewN | apply Kd.R_drew)); exact HO133.out) (Kd.R_base ho0) hb); have n1_ := Aside0.mk (Kd.R_lower (Kd.R_new' ho0 (Kd.R_lt (by (with_reducible repeat (first | apply Kd.R_alloc | apply Kd.R_drewN | apply Kd.R_drew)); exact HO133.out))) (below_size (by repeat (first | (with_reducible first | exact HB.out | apply below_alloc | apply pw_below_drewN | apply below_drew1 | refine below_set ?_ GE128.out) | exact HB.out)))); have n2_ := Aside0.mk (blk_below (g := gb128) (o := .cells #[.string a1_0, .string a1_1] 38 (0, 0)) (by (with_reducible repeat (first | refine blk_drewN ?_ _ | refine blk_drew ?_ | refine blk_alloc ?_ _)); exact BK128.out) hb); have n3_ := Aside0.mk (below_step (by repeat (first | (with_reducible first | exact HB.out | apply below_alloc | apply pw_below_drewN | apply below_drew1 | refine below_set ?_ GE128.out) | exact HB.out)) hb); clear HO133; clear BK128; clear HB; have HO133 := n0_; have HO138 := n1_; have BK128 := n2_; have HB := n3_; clear n0_ n1_ n2_ n3_; (try clear hb); (try clear hb2); (try clear hk); (try clear hi); (try clear ho0); have hcz24_0 : w23.cell? ⟨gb128, 0, none⟩ = some (.string a1_0) := (blk_cell BK128.out 0).trans rfl; have hcz24_1 : w23.cell? ⟨gb128, 1, none⟩ = some (.string a1_1) := (blk_cell BK128.out 1).trans rfl; have hfz24_0 := blk_frozen BK128.out 0; have hfz24_1 := blk_frozen BK128.out 1; obtain ⟨Ao25, co25, eo25⟩ := Kd.R_slice HO138.out; subst eo25) | ((with_reducible refine gate_callee (f := 18) rfl ?_); refine goesL_ (some 39) rfl rfl Try.func18 (by kernel_rfl) rfl #[.slice Ao25 t136.length co25, .string a1_0] rfl (by (try simp only [List.map_toArray, List.map_cons, List.map_nil]); first | done | rfl | (simp only [List.length_drop, List.length_take]; rfl)) ?_; (with_reducible refine (attr_Get.calls _ _ t136 a1_0 t139 t140 _ ?side1 ?side2 A16.out).mono ?_); (case side1 => repeat (first | exact (Kd.R_reads' HO138.out).2.2 | (with_reducible refine Kd.C_alloc ?_ _) | (with_reducible refine Kd.C_drewN ?_ _) | (with_reducible refine Kd.C_drew ?_))); (case side2 => exact (Kd.R_reads' HO138.out).2.1); rintro e w26 ⟨rfl, hb⟩; refine ⟨_, rfl, ?_⟩; have n0_ := Aside0.mk (Kd.R_below (by (with_reducible repeat (first | apply Kd.R_alloc | apply Kd.R_drewN | apply Kd.R_drew)); exact HO133.out) hb); have n1_ := Aside0.mk (Kd.R_below (by (with_reducible repeat (first | apply Kd.R_alloc | apply Kd.R_drewN | apply Kd.R_drew)); exact HO138.out) hb); have n2_ := Aside0.mk (blk_below (g := gb128) (o := .cells #[.string a1_0, .string a1_1] 38 (0, 0)) (by (with_reducible repeat (first | refine blk_drewN ?_ _ | refine blk_drew ?_ | refine blk_alloc ?_ _)); exact BK128.out) hb); have n3_ := Aside0.mk (below_step (by repeat (first | (with_reducible first | exact HB.out | apply below_alloc | apply pw_below_drewN | apply below_drew1 | refine below_set ?_ GE128.out) | exact HB.out)) hb); clear HO133; clear HO138; clear BK128; clear HB; have HO133 := n0_; have HO138 := n1_; have BK128 := n2_; have HB := n3_; clear n0_ n1_ n2_ n3_; (try clear hb); (try clear hb2); (try clear hk); (try clear hi)))
        (try simp only [Act.put, List.setIfInBounds_toArray, List.set_cons_zero, List.set_cons_succ])
        go_cut [76] (fun v76 wc => ∃ (kq : Nat) (x76_16 : Bool), v76 = .bool x76_16 ∧ Aside0 (decanterlaw06_AttrGets.j1 kq a2 t131 t136 x76_16 a1_0 a1_1 = some r) ∧ Aside0 (kq ≤ kj3) ∧ Aside0 (Kd.R k37 37 wc w.heap.size (fun k_ => some k_ ≠ ((.slice Ao25 t136.length co25) : Value).ownBlock) (.slice Ao20 t131.length co20) t131) ∧ Aside0 (Kd.R k37 37 wc w.heap.size (fun k_ => some k_ ≠ ((.slice Ao20 t131.length co20) : Value).ownBlock) (.slice Ao25 t136.length co25) t136) ∧ Aside0 (wc.heap[gb128]? = some (.cells #[.string a1_0, .string a1_1] 38 (0, 0))) ∧ Aside0 (Below w.heap.size w wc))
        case first =>
          have H := HC17.out
          clear HC17
          by_cases c27 : t140 = true
          · subst c27
            have H1 : (if t135 = true then (if t139.toList = t134.toList then (if (t136.length : Int) < (t131.length : Int) then (decanterlaw06_AttrGets.j1 kj3 a2 t131 t136 true a1_0 a1_1) else (decanterlaw06_AttrGets.j1 kj3 a2 t131 t136 (decide ((t136.length : Int) > (wrap64 ((t131.length : Int) + 1)))) a1_0 a1_1)) else (decanterlaw06_AttrGets.j1 kj3 a2 t131 t136 true a1_0 a1_1)) else (if t139.toList = a1_1.toList then (if (t136.length : Int) < (t131.length : Int) then (decanterlaw06_AttrGets.j1 kj3 a2 t131 t136 true a1_0 a1_1) else (decanterlaw06_AttrGets.j1 kj3 a2 t131 t136 (decide ((t136.length : Int) > (wrap64 ((t131.length : Int) + 1)))) a1_0 a1_1)) else (decanterlaw06_AttrGets.j1 kj3 a2 t131 t136 true a1_0 a1_1))) = some r := by rw [if_pos rfl] at H; exact H
            clear H
            have H := H1
            clear H1
            by_cases c28 : t135 = true
            · subst c28
              have H1 : (if t139.toList = t134.toList then (if (t136.length : Int) < (t131.length : Int) then (decanterlaw06_AttrGets.j1 kj3 a2 t131 t136 true a1_0 a1_1) else (decanterlaw06_AttrGets.j1 kj3 a2 t131 t136 (decide ((t136.length : Int) > (wrap64 ((t131.length : Int) + 1)))) a1_0 a1_1)) else (decanterlaw06_AttrGets.j1 kj3 a2 t131 t136 true a1_0 a1_1)) = some r := by rw [if_pos rfl] at H; exact H
              clear H
              have H := H1
              clear H1
              by_cases c29 : t139.toList = t134.toList
              · rw [if_pos c29] at H
                have c29b0 : (t139.toList == t134.toList) = true := beq_iff_eq.mpr c29
                have c29b1 : (t139.toList != t134.toList) = false := bne_eq_false_iff_eq.mpr c29
                clear c29
                (first | rw [c29b0] | (simp only [i64_w, i32_w]; rw [c29b0]) | skip)
                by_cases c30 : (t136.length : Int) < (t131.length : Int)
                · rw [if_pos c30] at H
                  have c30b0 : decide ((t136.length : Int) < (t131.length : Int)) = true := decide_eq_true c30
                  have c30b1 : decide (t136.length < t131.length) = true := decide_eq_true (Int.ofNat_lt.mp c30)
                  clear c30
                  have H' := Aside0.mk H
                  clear H
                  go_wp2
                  go_meet
                  case rel => exact ⟨_, (true), (by first | rfl | (simp; done) | (simp [*]; done)), H', ⟨by have := HJ3.out; first | omega | exact Nat.le_refl _⟩, ⟨by (with_reducible repeat (first | apply Kd.R_alloc | apply Kd.R_drewN | apply Kd.R_drew)); exact Kd.R_mono HO133.out (fun _ hk => hk.2)⟩, ⟨by (with_reducible repeat (first | apply Kd.R_alloc | apply Kd.R_drewN | apply Kd.R_drew)); exact Kd.R_mono HO138.out (fun _ hk => hk.2)⟩, ⟨by (with_reducible repeat (first | refine blk_drewN ?_ _ | refine blk_drew ?_ | refine blk_alloc ?_ _)); exact BK128.out⟩, ⟨by repeat (first | (with_reducible first | exact HB.out | apply below_alloc | apply pw_below_drewN | apply below_drew1 | refine below_set ?_ GE128.out) | exact HB.out)⟩⟩
                · rw [if_neg c30] at H
                  have c30b0 : decide ((t136.length : Int) < (t131.length : Int)) = false := decide_eq_false c30
                  have c30b1 : decide (t136.length < t131.length) = false := decide_eq_false (fun h => c30 (Int.ofNat_lt.mpr h))
                  clear c30
                  have H' := Aside0.mk H
                  clear H
                  go_wp2
                  go_meet
                  case rel => exact ⟨_, (decide ((t136.length : Int) > (wrap64 ((t131.length : Int) + 1)))), (by first | rfl | (simp; done) | (simp [*]; done)), H', ⟨by have := HJ3.out; first | omega | exact Nat.le_refl _⟩, ⟨by (with_reducible repeat (first | apply Kd.R_alloc | apply Kd.R_drewN | apply Kd.R_drew)); exact Kd.R_mono HO133.out (fun _ hk => hk.2)⟩, ⟨by (with_reducible repeat (first | apply Kd.R_alloc | apply Kd.R_drewN | apply Kd.R_drew)); exact Kd.R_mono HO138.out (fun _ hk => hk.2)⟩, ⟨by (with_reducible repeat (first | refine blk_drewN ?_ _ | refine blk_drew ?_ | refine blk_alloc ?_ _)); exact BK128.out⟩, ⟨by repeat (first | (with_reducible first | exact HB.out | apply below_alloc | apply pw_below_drewN | apply below_drew1 | refine below_set ?_ GE128.out) | exact HB.out)⟩⟩
              · rw [if_neg c29] at H
                have c29b0 : (t139.toList == t134.toList) = false := beq_eq_false_iff_ne.mpr c29
                have c29b1 : (t139.toList != t134.toList) = true := bne_iff_ne.mpr c29
                (first | rw [c29b0] | (simp only [i64_w, i32_w]; rw [c29b0]) | skip)
                have H' := Aside0.mk H
                clear H
                go_wp2
                go_meet
                case rel => exact ⟨_, (true), (by first | rfl | (simp; done) | (simp [*]; done)), H', ⟨by have := HJ3.out; first | omega | exact Nat.le_refl _⟩, ⟨by (with_reducible repeat (first | apply Kd.R_alloc | apply Kd.R_drewN | apply Kd.R_drew)); exact Kd.R_mono HO133.out (fun _ hk => hk.2)⟩, ⟨by (with_reducible repeat (first | apply Kd.R_alloc | apply Kd.R_drewN | apply Kd.R_drew)); exact Kd.R_mono HO138.out (fun _ hk => hk.2)⟩, ⟨by (with_reducible repeat (first | refine blk_drewN ?_ _ | refine blk_drew ?_ | refine blk_alloc ?_ _)); exact BK128.out⟩, ⟨by repeat (first | (with_reducible first | exact HB.out | apply below_alloc | apply pw_below_drewN | apply below_drew1 | refine below_set ?_ GE128.out) | exact HB.out)⟩⟩
            · replace c28 := Bool.eq_false_iff.mpr c28
              subst c28
              have H1 : (if t139.toList = a1_1.toList then (if (t136.length : Int) < (t131.length : Int) then (decanterlaw06_AttrGets.j1 kj3 a2 t131 t136 true a1_0 a1_1) else (decanterlaw06_AttrGets.j1 kj3 a2 t131 t136 (decide ((t136.length : Int) > (wrap64 ((t131.length : Int) + 1)))) a1_0 a1_1)) else (decanterlaw06_AttrGets.j1 kj3 a2 t131 t136 true a1_0 a1_1)) = some r := by rw [if_neg (show ¬ (false = true) by decide)] at H; exact H
              clear H
              have H := H1
              clear H1
              by_cases c31 : t139.toList = a1_1.toList
              · rw [if_pos c31] at H
                have c31b0 : (t139.toList == a1_1.toList) = true := beq_iff_eq.mpr c31
                have c31b1 : (t139.toList != a1_1.toList) = false := bne_eq_false_iff_eq.mpr c31
                clear c31
                by_cases c32 : (t136.length : Int) < (t131.length : Int)
                · rw [if_pos c32] at H
                  have c32b0 : decide ((t136.length : Int) < (t131.length : Int)) = true := decide_eq_true c32
                  have c32b1 : decide (t136.length < t131.length) = true := decide_eq_true (Int.ofNat_lt.mp c32)
                  clear c32
                  have H' := Aside0.mk H
                  clear H
                  have hcz33_0 : w26.cell? ⟨gb128, 0, none⟩ = some (.string a1_0) := (blk_cell BK128.out 0).trans rfl
                  have hcz33_1 : w26.cell? ⟨gb128, 1, none⟩ = some (.string a1_1) := (blk_cell BK128.out 1).trans rfl
                  have hfz33_0 := blk_frozen BK128.out 0
                  have hfz33_1 := blk_frozen BK128.out 1
                  go_wp2
                  go_meet
                  case rel => exact ⟨_, (true), (by first | rfl | (simp; done) | (simp [*]; done)), H', ⟨by have := HJ3.out; first | omega | exact Nat.le_refl _⟩, ⟨by (with_reducible repeat (first | apply Kd.R_alloc | apply Kd.R_drewN | apply Kd.R_drew)); exact Kd.R_mono HO133.out (fun _ hk => hk.2)⟩, ⟨by (with_reducible repeat (first | apply Kd.R_alloc | apply Kd.R_drewN | apply Kd.R_drew)); exact Kd.R_mono HO138.out (fun _ hk => hk.2)⟩, ⟨by (with_reducible repeat (first | refine blk_drewN ?_ _ | refine blk_drew ?_ | refine blk_alloc ?_ _)); exact BK128.out⟩, ⟨by repeat (first | (with_reducible first | exact HB.out | apply below_alloc | apply pw_below_drewN | apply below_drew1 | refine below_set ?_ GE128.out) | exact HB.out)⟩⟩
                · rw [if_neg c32] at H
                  have c32b0 : decide ((t136.length : Int) < (t131.length : Int)) = false := decide_eq_false c32
                  have c32b1 : decide (t136.length < t131.length) = false := decide_eq_false (fun h => c32 (Int.ofNat_lt.mpr h))
                  clear c32
                  have H' := Aside0.mk H
                  clear H
                  have hcz34_0 : w26.cell? ⟨gb128, 0, none⟩ = some (.string a1_0) := (blk_cell BK128.out 0).trans rfl
                  have hcz34_1 : w26.cell? ⟨gb128, 1, none⟩ = some (.string a1_1) := (blk_cell BK128.out 1).trans rfl
                  have hfz34_0 := blk_frozen BK128.out 0
                  have hfz34_1 := blk_frozen BK128.out 1
                  go_wp2
                  go_meet
                  case rel => exact ⟨_, (decide ((t136.length : Int) > (wrap64 ((t131.length : Int) + 1)))), (by first | rfl | (simp; done) | (simp [*]; done)), H', ⟨by have := HJ3.out; first | omega | exact Nat.le_refl _⟩, ⟨by (with_reducible repeat (first | apply Kd.R_alloc | apply Kd.R_drewN | apply Kd.R_drew)); exact Kd.R_mono HO133.out (fun _ hk => hk.2)⟩, ⟨by (with_reducible repeat (first | apply Kd.R_alloc | apply Kd.R_drewN | apply Kd.R_drew)); exact Kd.R_mono HO138.out (fun _ hk => hk.2)⟩, ⟨by (with_reducible repeat (first | refine blk_drewN ?_ _ | refine blk_drew ?_ | refine blk_alloc ?_ _)); exact BK128.out⟩, ⟨by repeat (first | (with_reducible first | exact HB.out | apply below_alloc | apply pw_below_drewN | apply below_drew1 | refine below_set ?_ GE128.out) | exact HB.out)⟩⟩
              · rw [if_neg c31] at H
                have c31b0 : (t139.toList == a1_1.toList) = false := beq_eq_false_iff_ne.mpr c31
                have c31b1 : (t139.toList != a1_1.toList) = true := bne_iff_ne.mpr c31
                have H' := Aside0.mk H
                clear H
                have hcz35_0 : w26.cell? ⟨gb128, 0, none⟩ = some (.string a1_0) := (blk_cell BK128.out 0).trans rfl
                have hcz35_1 : w26.cell? ⟨gb128, 1, none⟩ = some (.string a1_1) := (blk_cell BK128.out 1).trans rfl
                have hfz35_0 := blk_frozen BK128.out 0
                have hfz35_1 := blk_frozen BK128.out 1
                go_wp2
                go_meet
                case rel => exact ⟨_, (true), (by first | rfl | (simp; done) | (simp [*]; done)), H', ⟨by have := HJ3.out; first | omega | exact Nat.le_refl _⟩, ⟨by (with_reducible repeat (first | apply Kd.R_alloc | apply Kd.R_drewN | apply Kd.R_drew)); exact Kd.R_mono HO133.out (fun _ hk => hk.2)⟩, ⟨by (with_reducible repeat (first | apply Kd.R_alloc | apply Kd.R_drewN | apply Kd.R_drew)); exact Kd.R_mono HO138.out (fun _ hk => hk.2)⟩, ⟨by (with_reducible repeat (first | refine blk_drewN ?_ _ | refine blk_drew ?_ | refine blk_alloc ?_ _)); exact BK128.out⟩, ⟨by repeat (first | (with_reducible first | exact HB.out | apply below_alloc | apply pw_below_drewN | apply below_drew1 | refine below_set ?_ GE128.out) | exact HB.out)⟩⟩
          · replace c27 := Bool.eq_false_iff.mpr c27
            subst c27
            have H1 : (decanterlaw06_AttrGets.j1 kj3 a2 t131 t136 true a1_0 a1_1) = some r := by rw [if_neg (show ¬ (false = true) by decide)] at H; exact H
            clear H
            have H := H1
            clear H1
            have H' := Aside0.mk H
            clear H
            go_wp2
            go_meet
            case rel => exact ⟨_, (true), (by first | rfl | (simp; done) | (simp [*]; done)), H', ⟨by have := HJ3.out; first | omega | exact Nat.le_refl _⟩, ⟨by (with_reducible repeat (first | apply Kd.R_alloc | apply Kd.R_drewN | apply Kd.R_drew)); exact Kd.R_mono HO133.out (fun _ hk => hk.2)⟩, ⟨by (with_reducible repeat (first | apply Kd.R_alloc | apply Kd.R_drewN | apply Kd.R_drew)); exact Kd.R_mono HO138.out (fun _ hk => hk.2)⟩, ⟨by (with_reducible repeat (first | refine blk_drewN ?_ _ | refine blk_drew ?_ | refine blk_alloc ?_ _)); exact BK128.out⟩, ⟨by repeat (first | (with_reducible first | exact HB.out | apply below_alloc | apply pw_below_drewN | apply below_drew1 | refine below_set ?_ GE128.out) | exact HB.out)⟩⟩
        case rest =>
          clear HC17
          try clear c1
          try clear c2
          try clear p2
          try clear c3
          try clear c6
          try clear p6
          try clear c7
          try clear c10
          try clear c13
          try clear c14
          try clear c17
          try clear c18
          try clear c27
          try clear c28
          try clear c29
          try clear c29b0
          try clear c29b1
          try clear c30
          try clear c30b0
          try clear c30b1
          try clear c31
          try clear c31b0
          try clear c31b1
          try clear c32
          try clear c32b0
          try clear c32b1
          try clear hcz19_0
          try clear hcz19_1
          try clear hcz22_0
          try clear hcz22_1
          try clear hcz24_0
          try clear hcz24_1
          try clear hcz33_0
          try clear hcz33_1
          try clear hcz34_0
          try clear hcz34_1
          try clear hcz35_0
          try clear hcz35_1
          try clear hfz19_0
          try clear hfz19_1
          try clear hfz22_0
          try clear hfz22_1
          try clear hfz24_0
          try clear hfz24_1
          try clear hfz33_0
          try clear hfz33_1
          try clear hfz34_0
          try clear hfz34_1
          try clear hfz35_0
          try clear hfz35_1
          try clear p2
          obtain ⟨kq, x76_16, rfl, HA, HJ16, HO_7, HO_10, BK128, HB⟩ := hcut
          cases kq with
          | zero => exact absurd HA.out (by simp [decanterlaw06_AttrGets.j1])
          | succ kj16 =>
            have H := HA.out
            clear HA
            simp only [decanterlaw06_AttrGets.j1] at H
            by_cases c36 : x76_16 = true
            · subst c36
              have H1 : (some false) = some r := by rw [if_pos rfl] at H; exact H
              clear H
              have H := H1
              clear H1
              obtain rfl := Option.some.inj H
              go_wp2
              go_ret
              exact ⟨by first | rfl | (simp [errW_none, errW_some] <;> rfl) | (simp [*, errW_none, errW_some] <;> rfl), by repeat (first | (with_reducible first | exact HB.out | apply below_alloc | apply pw_below_drewN | apply below_drew1 | refine below_set ?_ GE128.out) | exact HB.out)⟩
            · replace c36 := Bool.eq_false_iff.mpr c36
              subst c36
              have H1 : (if a2.toList = a1_0.toList then (some true) else ((attr_Get.f t136 a2).bind fun bt141 => ((attr_Get.f t131 a2).bind fun bt143 => (if bt141.1.toList = bt143.1.toList then (some (bt141.2 == bt143.2)) else (some false))))) = some r := by rw [if_neg (show ¬ (false = true) by decide)] at H; exact H
              clear H
              have H := H1
              clear H1
              by_cases c37 : a2.toList = a1_0.toList
              · rw [if_pos c37] at H
                have c37b0 : (a2.toList == a1_0.toList) = true := beq_iff_eq.mpr c37
                have c37b1 : (a2.toList != a1_0.toList) = false := bne_eq_false_iff_eq.mpr c37
                clear c37
                obtain rfl := Option.some.inj H
                have hcz38_0 : wc.cell? ⟨gb128, 0, none⟩ = some (.string a1_0) := (blk_cell BK128.out 0).trans rfl
                have hcz38_1 : wc.cell? ⟨gb128, 1, none⟩ = some (.string a1_1) := (blk_cell BK128.out 1).trans rfl
                have hfz38_0 := blk_frozen BK128.out 0
                have hfz38_1 := blk_frozen BK128.out 1
                go_wp2
                go_ret
                exact ⟨by first | rfl | (simp [errW_none, errW_some] <;> rfl) | (simp [*, errW_none, errW_some] <;> rfl), by repeat (first | (with_reducible first | exact HB.out | apply below_alloc | apply pw_below_drewN | apply below_drew1 | refine below_set ?_ GE128.out) | exact HB.out)⟩
              · rw [if_neg c37] at H
                have c37b0 : (a2.toList == a1_0.toList) = false := beq_eq_false_iff_ne.mpr c37
                have c37b1 : (a2.toList != a1_0.toList) = true := bne_iff_ne.mpr c37
                replace H := Option.bind_eq_some_iff.mp H
                obtain ⟨⟨t141, t142⟩, A390, H⟩ := H
                replace H : ((attr_Get.f t131 a2).bind fun bt143 => (if t141.toList = bt143.1.toList then (some (t142 == bt143.2)) else (some false))) = some r := H
                have A39 := Aside0.mk A390
                clear A390
                replace H := Option.bind_eq_some_iff.mp H
                obtain ⟨⟨t143, t144⟩, A400, H⟩ := H
                replace H : (if t141.toList = t143.toList then (some (t142 == t144)) else (some false)) = some r := H
                have A40 := Aside0.mk A400
                clear A400
                by_cases c41 : t141.toList = t143.toList
                · rw [if_pos c41] at H
                  have c41b0 : (t141.toList == t143.toList) = true := beq_iff_eq.mpr c41
                  have c41b1 : (t141.toList != t143.toList) = false := bne_eq_false_iff_eq.mpr c41
                  clear c41
                  obtain rfl := Option.some.inj H
                  have hcz42_0 : wc.cell? ⟨gb128, 0, none⟩ = some (.string a1_0) := (blk_cell BK128.out 0).trans rfl
                  have hcz42_1 : wc.cell? ⟨gb128, 1, none⟩ = some (.string a1_1) := (blk_cell BK128.out 1).trans rfl
                  have hfz42_0 := blk_frozen BK128.out 0
                  have hfz42_1 := blk_frozen BK128.out 1
                  go_wp2_with (first | ((with_reducible refine gate_callee (f := 18) rfl ?_); refine goesL_ (some 84) rfl rfl Try.func18 (by kernel_rfl) rfl #[.slice Ao25 t136.length co25, .string a2] rfl (by (try simp only [List.map_toArray, List.map_cons, List.map_nil]); first | done | rfl | (simp only [List.length_drop, List.length_take]; rfl)) ?_; (with_reducible refine (attr_Get.calls _ _ t136 a2 t141 t142 _ ?side1 ?side2 A39.out).mono ?_); (case side1 => repeat (first | exact (Kd.R_reads' HO_10.out).2.2 | (with_reducible refine Kd.C_alloc ?_ _) | (with_reducible refine Kd.C_drewN ?_ _) | (with_reducible refine Kd.C_drew ?_))); (case side2 => exact (Kd.R_reads' HO_10.out).2.1); rintro e w43 ⟨rfl, hb⟩; refine ⟨_, rfl, ?_⟩; have n0_ := Aside0.mk (Kd.R_below (by (with_reducible repeat (first | apply Kd.R_alloc | apply Kd.R_drewN | apply Kd.R_drew)); exact HO_7.out) hb); have n1_ := Aside0.mk (Kd.R_below (by (with_reducible repeat (first | apply Kd.R_alloc | apply Kd.R_drewN | apply Kd.R_drew)); exact HO_10.out) hb); have n2_ := Aside0.mk (blk_below (g := gb128) (o := .cells #[.string a1_0, .string a1_1] 38 (0, 0)) (by (with_reducible repeat (first | refine blk_drewN ?_ _ | refine blk_drew ?_ | refine blk_alloc ?_ _)); exact BK128.out) hb); have n3_ := Aside0.mk (below_step (by repeat (first | (with_reducible first | exact HB.out | apply below_alloc | apply pw_below_drewN | apply below_drew1 | refine below_set ?_ GE128.out) | exact HB.out)) hb); clear HO_7; clear HO_10; clear BK128; clear HB; have HO_7 := n0_; have HO_10 := n1_; have BK128 := n2_; have HB := n3_; clear n0_ n1_ n2_ n3_; (try clear hb); (try clear hb2); (try clear hk); (try clear hi)) | ((with_reducible refine gate_callee (f := 18) rfl ?_); refine goesL_ (some 90) rfl rfl Try.func18 (by kernel_rfl) rfl #[.slice Ao20 t131.length co20, .string a2] rfl (by (try simp only [List.map_toArray, List.map_cons, List.map_nil]); first | done | rfl | (simp only [List.length_drop, List.length_take]; rfl)) ?_; (with_reducible refine (attr_Get.calls _ _ t131 a2 t143 t144 _ ?side1 ?side2 A40.out).mono ?_); (case side1 => repeat (first | exact (Kd.R_reads' HO_7.out).2.2 | (with_reducible refine Kd.C_alloc ?_ _) | (with_reducible refine Kd.C_drewN ?_ _) | (with_reducible refine Kd.C_drew ?_))); (case side2 => exact (Kd.R_reads' HO_7.out).2.1); rintro e w44 ⟨rfl, hb⟩; refine ⟨_, rfl, ?_⟩; have n0_ := Aside0.mk (Kd.R_below (by (with_reducible repeat (first | apply Kd.R_alloc | apply Kd.R_drewN | apply Kd.R_drew)); exact HO_7.out) hb); have n1_ := Aside0.mk (Kd.R_below (by (with_reducible repeat (first | apply Kd.R_alloc | apply Kd.R_drewN | apply Kd.R_drew)); exact HO_10.out) hb); have n2_ := Aside0.mk (blk_below (g := gb128) (o := .cells #[.string a1_0, .string a1_1] 38 (0, 0)) (by (with_reducible repeat (first | refine blk_drewN ?_ _ | refine blk_drew ?_ | refine blk_alloc ?_ _)); exact BK128.out) hb); have n3_ := Aside0.mk (below_step (by repeat (first | (with_reducible first | exact HB.out | apply below_alloc | apply pw_below_drewN | apply below_drew1 | refine below_set ?_ GE128.out) | exact HB.out)) hb); clear HO_7; clear HO_10; clear BK128; clear HB; have HO_7 := n0_; have HO_10 := n1_; have BK128 := n2_; have HB := n3_; clear n0_ n1_ n2_ n3_; (try clear hb); (try clear hb2); (try clear hk); (try clear hi)))
                  go_ret
                  exact ⟨by first | rfl | (simp [errW_none, errW_some] <;> rfl) | (simp [*, errW_none, errW_some] <;> rfl), by repeat (first | (with_reducible first | exact HB.out | apply below_alloc | apply pw_below_drewN | apply below_drew1 | refine below_set ?_ GE128.out) | exact HB.out)⟩
                · rw [if_neg c41] at H
                  have c41b0 : (t141.toList == t143.toList) = false := beq_eq_false_iff_ne.mpr c41
                  have c41b1 : (t141.toList != t143.toList) = true := bne_iff_ne.mpr c41
                  obtain rfl := Option.some.inj H
                  have hcz45_0 : wc.cell? ⟨gb128, 0, none⟩ = some (.string a1_0) := (blk_cell BK128.out 0).trans rfl
                  have hcz45_1 : wc.cell? ⟨gb128, 1, none⟩ = some (.string a1_1) := (blk_cell BK128.out 1).trans rfl
                  have hfz45_0 := blk_frozen BK128.out 0
                  have hfz45_1 := blk_frozen BK128.out 1
                  go_wp2_with (first | ((with_reducible refine gate_callee (f := 18) rfl ?_); refine goesL_ (some 84) rfl rfl Try.func18 (by kernel_rfl) rfl #[.slice Ao25 t136.length co25, .string a2] rfl (by (try simp only [List.map_toArray, List.map_cons, List.map_nil]); first | done | rfl | (simp only [List.length_drop, List.length_take]; rfl)) ?_; (with_reducible refine (attr_Get.calls _ _ t136 a2 t141 t142 _ ?side1 ?side2 A39.out).mono ?_); (case side1 => repeat (first | exact (Kd.R_reads' HO_10.out).2.2 | (with_reducible refine Kd.C_alloc ?_ _) | (with_reducible refine Kd.C_drewN ?_ _) | (with_reducible refine Kd.C_drew ?_))); (case side2 => exact (Kd.R_reads' HO_10.out).2.1); rintro e w46 ⟨rfl, hb⟩; refine ⟨_, rfl, ?_⟩; have n0_ := Aside0.mk (Kd.R_below (by (with_reducible repeat (first | apply Kd.R_alloc | apply Kd.R_drewN | apply Kd.R_drew)); exact HO_7.out) hb); have n1_ := Aside0.mk (Kd.R_below (by (with_reducible repeat (first | apply Kd.R_alloc | apply Kd.R_drewN | apply Kd.R_drew)); exact HO_10.out) hb); have n2_ := Aside0.mk (blk_below (g := gb128) (o := .cells #[.string a1_0, .string a1_1] 38 (0, 0)) (by (with_reducible repeat (first | refine blk_drewN ?_ _ | refine blk_drew ?_ | refine blk_alloc ?_ _)); exact BK128.out) hb); have n3_ := Aside0.mk (below_step (by repeat (first | (with_reducible first | exact HB.out | apply below_alloc | apply pw_below_drewN | apply below_drew1 | refine below_set ?_ GE128.out) | exact HB.out)) hb); clear HO_7; clear HO_10; clear BK128; clear HB; have HO_7 := n0_; have HO_10 := n1_; have BK128 := n2_; have HB := n3_; clear n0_ n1_ n2_ n3_; (try clear hb); (try clear hb2); (try clear hk); (try clear hi)) | ((with_reducible refine gate_callee (f := 18) rfl ?_); refine goesL_ (some 90) rfl rfl Try.func18 (by kernel_rfl) rfl #[.slice Ao20 t131.length co20, .string a2] rfl (by (try simp only [List.map_toArray, List.map_cons, List.map_nil]); first | done | rfl | (simp only [List.length_drop, List.length_take]; rfl)) ?_; (with_reducible refine (attr_Get.calls _ _ t131 a2 t143 t144 _ ?side1 ?side2 A40.out).mono ?_); (case side1 => repeat (first | exact (Kd.R_reads' HO_7.out).2.2 | (with_reducible refine Kd.C_alloc ?_ _) | (with_reducible refine Kd.C_drewN ?_ _) | (with_reducible refine Kd.C_drew ?_))); (case side2 => exact (Kd.R_reads' HO_7.out).2.1); rintro e w47 ⟨rfl, hb⟩; refine ⟨_, rfl, ?_⟩; have n0_ := Aside0.mk (Kd.R_below (by (with_reducible repeat (first | apply Kd.R_alloc | apply Kd.R_drewN | apply Kd.R_drew)); exact HO_7.out) hb); have n1_ := Aside0.mk (Kd.R_below (by (with_reducible repeat (first | apply Kd.R_alloc | apply Kd.R_drewN | apply Kd.R_drew)); exact HO_10.out) hb); have n2_ := Aside0.mk (blk_below (g := gb128) (o := .cells #[.string a1_0, .string a1_1] 38 (0, 0)) (by (with_reducible repeat (first | refine blk_drewN ?_ _ | refine blk_drew ?_ | refine blk_alloc ?_ _)); exact BK128.out) hb); have n3_ := Aside0.mk (below_step (by repeat (first | (with_reducible first | exact HB.out | apply below_alloc | apply pw_below_drewN | apply below_drew1 | refine below_set ?_ GE128.out) | exact HB.out)) hb); clear HO_7; clear HO_10; clear BK128; clear HB; have HO_7 := n0_; have HO_10 := n1_; have BK128 := n2_; have HB := n3_; clear n0_ n1_ n2_ n3_; (try clear hb); (try clear hb2); (try clear hk); (try clear hi)))
                  go_ret
                  exact ⟨by first | rfl | (simp [errW_none, errW_some] <;> rfl) | (simp [*, errW_none, errW_some] <;> rfl), by repeat (first | (with_reducible first | exact HB.out | apply below_alloc | apply pw_below_drewN | apply below_drew1 | refine below_set ?_ GE128.out) | exact HB.out)⟩

end Go.Proofs.Ytfkgklbaafbbiaa.PAGets
