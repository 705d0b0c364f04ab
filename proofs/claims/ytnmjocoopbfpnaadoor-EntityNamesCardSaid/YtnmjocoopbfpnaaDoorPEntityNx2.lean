-- Laid by a program of this session (tools/patch_print.py) out of the translation. Not trusted: Lean checks it.
import Derived.Test.YtnmjocoopbfpnaaDoorPEntityNx0
import Derived.Test.YtnmjocoopbfpnaaDoorPEntityNx1
import Derived.IntWalk
namespace Go.Proofs.YtnmjocoopbfpnaaDoor.PEntityN
open Go.RowKit Go.Proofs.YtnmjocoopbfpnaaDoorW.PrintWords Go.Proofs.YtnmjocoopbfpnaaDoorW.PrintLast Go.Proofs.YtnmjocoopbfpnaaDoorW.PrintMore
attribute [local go_sem] max2_int min2_int max_two min_two max_three min_three max_four min_four   -- for this text's walks alone
set_option linter.unusedVariables false
set_option linter.unusedSimpArgs false

/-! ### decanterref04_Find: function 15 -/
mutual
def decanterref04_Find.l0 : Nat → ByteArray → Int → ByteArray → List (S30) → Int → Option (Int × ByteArray)
  | 0, _, _, _, _, _ => none
  | k + 1, x0, x4, x5, x6, x7 => if x7 < (x6.length : Int) then (if 0 ≤ x7 then (if ((rd_T30 x6 x7).f0).size + 1 ≤ 9223372036854775807 then ((decanterref04_Begins.f x0 (((rd_T30 x6 x7).f0) ++ (⟨#[59]⟩ : ByteArray))).bind fun t133 => (if t133 = true then (decanterref04_Find.j1 k x0 x4 x5 x6 x7 (decide ((wrap64 ((((rd_T30 x6 x7).f0).size : Int) + 1)) > x4))) else (decanterref04_Find.j1 k x0 x4 x5 x6 x7 false))) else (none)) else (none)) else (some (x4, x5))
def decanterref04_Find.j1 : Nat → ByteArray → Int → ByteArray → List (S30) → Int → Bool → Option (Int × ByteArray)
  | 0, _, _, _, _, _, _ => none
  | k + 1, x0, x4, x5, x6, x7, x33 => if x33 = true then (if 0 ≤ x7 then (if x7 < (x6.length : Int) then ((decanterref04_Text.f k ((rd_T30 x6 x7).f2)).bind fun t137 => (decanterref04_Find.l0 k x0 (wrap64 ((((rd_T30 x6 x7).f0).size : Int) + 1)) t137 x6 (wrap64 (x7 + 1)))) else (none)) else (none)) else (if 0 ≤ x7 then (if x7 < (x6.length : Int) then (if (rd_T30 x6 x7).f1 = true then ((decanterref04_Begins.f x0 ((rd_T30 x6 x7).f0)).bind fun t140 => (if t140 = true then (if (((rd_T30 x6 x7).f0).size : Int) > x4 then ((decanterref04_Text.f k ((rd_T30 x6 x7).f2)).bind fun t144 => (decanterref04_Find.l0 k x0 (((rd_T30 x6 x7).f0).size : Int) t144 x6 (wrap64 (x7 + 1)))) else (decanterref04_Find.l0 k x0 x4 x5 x6 (wrap64 (x7 + 1)))) else (decanterref04_Find.l0 k x0 x4 x5 x6 (wrap64 (x7 + 1))))) else (decanterref04_Find.l0 k x0 x4 x5 x6 (wrap64 (x7 + 1)))) else (none)) else (none))
end
def decanterref04_Find.f (k : Nat) (a0 : ByteArray) : Option (Int × ByteArray) := (decanterref04_Table.f).bind fun t129 => (decanterref04_Find.l0 k a0 0 (⟨#[]⟩ : ByteArray) t129 0)
theorem decanterref04_Find.mono_l : ∀ k, (∀ y0 y1 y2 y3 y4, LeO (decanterref04_Find.l0 k y0 y1 y2 y3 y4) (decanterref04_Find.l0 (k + 1) y0 y1 y2 y3 y4)) ∧ (∀ y0 y1 y2 y3 y4 y5, LeO (decanterref04_Find.j1 k y0 y1 y2 y3 y4 y5) (decanterref04_Find.j1 (k + 1) y0 y1 y2 y3 y4 y5))
  | 0 => ⟨fun _ _ _ _ _ r h => by simp [decanterref04_Find.l0] at h, fun _ _ _ _ _ _ r h => by simp [decanterref04_Find.j1] at h⟩
  | k + 1 => by
    obtain ⟨ih0, ih1⟩ := decanterref04_Find.mono_l k
    refine ⟨?_, ?_⟩
    · intro y0 y1 y2 y3 y4
      unfold decanterref04_Find.l0
      repeat' first
      | (with_reducible exact ih0 _ _ _ _ _)
      | (with_reducible exact ih1 _ _ _ _ _ _)
      | (with_reducible exact decanterref04_Text.mono _ _)
      | (with_reducible exact LeO.refl _)
      | (with_reducible exact LeO.none _)
      | (with_reducible refine LeO.ite ?_ ?_)
      | (with_reducible refine LeO.bind ?_ (fun _ => ?_))
      | exact ih0 _ _ _ _ _
      | exact ih1 _ _ _ _ _ _
      | exact decanterref04_Text.mono _ _
      | exact LeO.none _
      | refine LeO.ite ?_ ?_
      | refine LeO.bind ?_ (fun _ => ?_)
    · intro y0 y1 y2 y3 y4 y5
      unfold decanterref04_Find.j1
      repeat' first
      | (with_reducible exact ih0 _ _ _ _ _)
      | (with_reducible exact ih1 _ _ _ _ _ _)
      | (with_reducible exact decanterref04_Text.mono _ _)
      | (with_reducible exact LeO.refl _)
      | (with_reducible exact LeO.none _)
      | (with_reducible refine LeO.ite ?_ ?_)
      | (with_reducible refine LeO.bind ?_ (fun _ => ?_))
      | exact ih0 _ _ _ _ _
      | exact ih1 _ _ _ _ _ _
      | exact decanterref04_Text.mono _ _
      | exact LeO.none _
      | refine LeO.ite ?_ ?_
      | refine LeO.bind ?_ (fun _ => ?_)
theorem decanterref04_Find.mono : ∀ a0 k, LeO (decanterref04_Find.f k a0) (decanterref04_Find.f (k + 1) a0) := by
  intro a0 k
  obtain ⟨ih0, ih1⟩ := decanterref04_Find.mono_l k
  unfold decanterref04_Find.f
  repeat' first
      | (with_reducible exact ih0 _ _ _ _ _)
      | (with_reducible exact ih1 _ _ _ _ _ _)
      | (with_reducible exact decanterref04_Text.mono _ _)
      | (with_reducible exact LeO.refl _)
      | (with_reducible exact LeO.none _)
      | (with_reducible refine LeO.ite ?_ ?_)
      | (with_reducible refine LeO.bind ?_ (fun _ => ?_))
      | exact ih0 _ _ _ _ _
      | exact ih1 _ _ _ _ _ _
      | exact decanterref04_Text.mono _ _
      | exact LeO.none _
      | refine LeO.ite ?_ ?_
      | refine LeO.bind ?_ (fun _ => ?_)
set_option maxHeartbeats 8000000 in
set_option maxRecDepth 100000 in
theorem decanterref04_Find.calls (k : Nat) (a0 : ByteArray) (r1 : Int) (r2 : ByteArray) (w : World) (hW : Wok w) (h : decanterref04_Find.f k a0 = some (r1, r2)) :
    Calls Tryd.prog 15 #[.string a0] w fun e w' => e = .returned (.tuple #[.int .i64 r1, .string r2]) ∧ Below w.heap.size w w' := by
  have HB := Aside0.mk (Below.refl w.heap.size w)
  have H : ((decanterref04_Table.f).bind fun t129 => (decanterref04_Find.l0 k a0 0 (⟨#[]⟩ : ByteArray) t129 0)) = some (r1, r2) := h
  clear h
  replace H := Option.bind_eq_some_iff.mp H
  obtain ⟨t129, A20, H⟩ := H
  replace H : (decanterref04_Find.l0 k a0 0 (⟨#[]⟩ : ByteArray) t129 0) = some (r1, r2) := H
  have A2 := Aside0.mk A20
  clear A20
  have H' := Aside0.mk H
  clear H
  go_enter Tryd.func15, Tryd.ntmps15
  go_wp2_with (first | ((with_reducible refine gate_callee (f := 16) rfl ?_); refine goesL_ (some 8) rfl rfl Tryd.func16 (by kernel_rfl) rfl #[] rfl (by (try simp only [List.map_toArray, List.map_cons, List.map_nil]); first | done | rfl | (simp only [List.length_drop, List.length_take]; rfl)) ?_; (with_reducible refine (decanterref04_Table.calls  t129 _ (Wok_below hW (by repeat (first | (with_reducible first | exact HB.out | apply below_alloc | apply pw_below_drewN | apply below_drew1) | exact HB.out))) A2.out).mono ?_); rintro e w3 ⟨v130, rfl, ho0, hb⟩; refine ⟨_, rfl, ?_⟩; have n0_ := Aside0.mk (Kd.S_lower ho0 (below_size (by repeat (first | (with_reducible first | exact HB.out | apply below_alloc | apply pw_below_drewN | apply below_drew1) | exact HB.out)))); have n1_ := Aside0.mk (below_step (by repeat (first | (with_reducible first | exact HB.out | apply below_alloc | apply pw_below_drewN | apply below_drew1) | exact HB.out)) hb); clear HB; have HO131 := n0_; have HB := n1_; clear n0_ n1_; (try clear hb); (try clear hb2); (try clear hk); (try clear hi); (try clear ho0)))
  go_loopg [4, 5, 7] k (fun kq v4 v5 v7 w' => ∃ (x4_1 : Int) (x5_1 : ByteArray) (x7_1 : Int), v4 = .int .i64 x4_1 ∧ v5 = .string x5_1 ∧ v7 = .int .i64 x7_1 ∧ Aside0 (decanterref04_Find.l0 kq a0 x4_1 x5_1 t129 x7_1 = some (r1, r2)) ∧ Aside0 (kq ≤ k) ∧ Aside0 (Kd.S k30 30 w' w.heap.size (fun _ => True) v130 t129) ∧ Aside0 (Below w.heap.size w w'))
  case atStart => exact ⟨(0), ((⟨#[]⟩ : ByteArray)), (0), (by first | rfl | (simp; done) | (simp [*]; done)), (by first | rfl | (simp; done) | (simp [*]; done)), (by first | rfl | (simp; done) | (simp [*]; done)), H', ⟨Nat.le_refl _⟩, ⟨by (with_reducible repeat (first | apply Kd.S_alloc | apply Kd.S_drewN | apply Kd.S_drew)); exact HO131.out⟩, ⟨by repeat (first | (with_reducible first | exact HB.out | apply below_alloc | apply pw_below_drewN | apply below_drew1) | exact HB.out)⟩⟩
  case round =>
    clear H'
    try clear c1
    try clear p2
    obtain ⟨x4_1, x5_1, x7_1, rfl, rfl, rfl, HA, HK1, HO_6, HB⟩ := hrel
    cases gk with
    | zero => exact absurd HA.out (by simp [decanterref04_Find.l0])
    | succ k1 =>
      have H := HA.out
      clear HA
      simp only [decanterref04_Find.l0] at H
      by_cases c4 : x7_1 < (t129.length : Int)
      · rw [if_pos c4] at H
        have c4b0 : decide (x7_1 < (t129.length : Int)) = true := decide_eq_true c4
        clear c4
        have HC5 := Aside0.mk H
        clear H
        obtain ⟨Ao6, co6, eo6⟩ := Kd.S_slice HO_6.out
        subst eo6
        go_upto_region 6 with (fail)
        go_cut [33] (fun v33 wc => ∃ (kq : Nat) (x33_4 : Bool), v33 = .bool x33_4 ∧ Aside0 (decanterref04_Find.j1 kq a0 x4_1 x5_1 t129 x7_1 x33_4 = some (r1, r2)) ∧ Aside0 (kq ≤ k1) ∧ Aside0 (Kd.S k30 30 wc w.heap.size (fun _ => True) (.slice Ao6 t129.length co6) t129) ∧ Aside0 (Below w.heap.size w wc))
        case first =>
          have H := HC5.out
          clear HC5
          by_cases c7 : 0 ≤ x7_1
          · rw [if_pos c7] at H
            have c7b0 : decide (0 ≤ x7_1) = true := decide_eq_true c7
            clear c7
            (first | rw [c7b0] | (simp only [i64_w, i32_w]; rw [c7b0]) | skip)
            by_cases c8 : ((rd_T30 t129 x7_1).f0).size + 1 ≤ 9223372036854775807
            · rw [if_pos c8] at H
              have c8b0 := eq_true c8
              have c8b1 : decide (((rd_T30 t129 x7_1).f0).size + 1 ≤ 9223372036854775807) = true := decide_eq_true c8
              try have c8b2 : (9223372036854775807 < ((rd_T30 t129 x7_1).f0).size + 1) = False := eq_false (Nat.not_lt.2 c8)
              replace H := Option.bind_eq_some_iff.mp H
              obtain ⟨t133, A90, H⟩ := H
              replace H : (if t133 = true then (decanterref04_Find.j1 k1 a0 x4_1 x5_1 t129 x7_1 (decide ((wrap64 ((((rd_T30 t129 x7_1).f0).size : Int) + 1)) > x4_1))) else (decanterref04_Find.j1 k1 a0 x4_1 x5_1 t129 x7_1 false)) = some (r1, r2) := H
              have A9 := Aside0.mk A90
              clear A90
              by_cases c10 : t133 = true
              · subst c10
                have H1 : (decanterref04_Find.j1 k1 a0 x4_1 x5_1 t129 x7_1 (decide ((wrap64 ((((rd_T30 t129 x7_1).f0).size : Int) + 1)) > x4_1))) = some (r1, r2) := by rw [if_pos rfl] at H; exact H
                clear H
                have H := H1
                clear H1
                have H' := Aside0.mk H
                clear H
                have p132 : 0 ≤ (x7_1 : Int) := of_decide_eq_true (by first | (with_reducible assumption) | assumption)
                have q132 : x7_1 < (t129.length : Int) := of_decide_eq_true (by first | (with_reducible assumption) | assumption)
                obtain ⟨ad132, A132_2, c132_2, e132, hx132_0, hx132_1, hx132_2, hl132_2, hi132_2⟩ := at_T30 (Kd.S_reads' HO_6.out).2.2 x7_1 p132 q132
                cases e132
                obtain ⟨ce132, hce132, hMe132, hcc132⟩ := Kd.S_get HO_6.out z30 x7_1 p132 (by first | exact q132 | exact of_decide_eq_true (by first | (with_reducible assumption) | assumption) | (have e_ := (Kd.S_reads' HO_6.out).1; omega))
                obtain ⟨ve132_2, rfl, ge132_2⟩ := k30_openM hMe132
                have hv132_2 := hcc132 2 _ rfl
                rw [add_field _ _ 2 (by omega)] at hv132_2
                replace hv132_2 := Option.some.inj (hv132_2.symm.trans hx132_2)
                rw [hv132_2] at ge132_2
                have HL132_2 := Aside0.mk (show Kd.R (Kd.int .i64) 3 _ _ _ _ ((rd_T30 t129 x7_1).f2) from ge132_2)
                clear hv132_2 ge132_2
                clear hcc132 hce132
                have HR132_2 := Aside0.mk hi132_2
                have HC132_2 := Aside0.mk hl132_2
                clear hi132_2 hl132_2
                replace p132 := eq_true p132
                replace q132 := eq_true q132
                go_wp2_with (first | ((with_reducible refine gate_callee (f := 28) rfl ?_); refine goesL_ (some 22) rfl rfl Tryd.func28 (by kernel_rfl) rfl #[.string a0, .string (((rd_T30 t129 x7_1).f0) ++ (⟨#[59]⟩ : ByteArray))] rfl (by (try simp only [List.map_toArray, List.map_cons, List.map_nil]); first | done | rfl | (simp only [List.length_drop, List.length_take]; rfl)) ?_; (with_reducible refine (decanterref04_Begins.calls a0 (((rd_T30 t129 x7_1).f0) ++ (⟨#[59]⟩ : ByteArray)) true _ A9.out).mono ?_); rintro e w' ⟨rfl, ⟨nd, rfl⟩⟩; refine ⟨_, rfl, ?_⟩; have p134 : 0 ≤ (x7_1 : Int) := of_decide_eq_true (by first | (with_reducible assumption) | assumption); have q134 : x7_1 < (t129.length : Int) := of_decide_eq_true (by first | (with_reducible assumption) | assumption); obtain ⟨ad134, A134_2, c134_2, e134, hx134_0, hx134_1, hx134_2, hl134_2, hi134_2⟩ := at_T30 (Kd.S_reads' HO_6.out).2.2 x7_1 p134 q134; obtain rfl : ad132 = ad134 := (by injection e134); obtain ⟨ce134, hce134, hMe134, hcc134⟩ := Kd.S_get HO_6.out z30 x7_1 p134 (by first | exact q134 | exact of_decide_eq_true (by first | (with_reducible assumption) | assumption) | (have e_ := (Kd.S_reads' HO_6.out).1; omega)); obtain ⟨ve134_2, rfl, ge134_2⟩ := k30_openM hMe134; have hv134_2 := hcc134 2 _ rfl; rw [add_field _ _ 2 (by omega)] at hv134_2; replace hv134_2 := Option.some.inj (hv134_2.symm.trans hx134_2); rw [hv134_2] at ge134_2; have HL134_2 := Aside0.mk (show Kd.R (Kd.int .i64) 3 _ _ _ _ ((rd_T30 t129 x7_1).f2) from ge134_2); clear hv134_2 ge134_2; clear hcc134 hce134; have HR134_2 := Aside0.mk hi134_2; have HC134_2 := Aside0.mk hl134_2; clear hi134_2 hl134_2; replace p134 := eq_true p134; replace q134 := eq_true q134; have ea_ := Option.some.inj (hx132_2.symm.trans hx134_2); injection ea_ with ea_ en_ ec_; subst ea_; subst ec_; clear en_))
                go_meet
                case rel => exact ⟨_, (decide ((wrap64 ((((rd_T30 t129 x7_1).f0).size : Int) + 1)) > x4_1)), (by first | rfl | (simp; done) | (rw [Go.IntWalk.wrap64_in ((((rd_T30 t129 x7_1).f0).size : Int) + 1) (by omega)]; done) | (rw [Go.IntWalk.wrap64_in ((((rd_T30 t129 x7_1).f0).size : Int) + 1) (by omega)]; simp; done) | (simp [*]; done)), H', ⟨by have := HK1.out; first | omega | exact Nat.le_refl _⟩, ⟨by (with_reducible repeat (first | apply Kd.S_alloc | apply Kd.S_drewN | apply Kd.S_drew)); exact HO_6.out⟩, ⟨by repeat (first | (with_reducible first | exact HB.out | apply below_alloc | apply pw_below_drewN | apply below_drew1) | exact HB.out)⟩⟩
              · replace c10 := Bool.eq_false_iff.mpr c10
                subst c10
                have H1 : (decanterref04_Find.j1 k1 a0 x4_1 x5_1 t129 x7_1 false) = some (r1, r2) := by rw [if_neg (show ¬ (false = true) by decide)] at H; exact H
                clear H
                have H := H1
                clear H1
                have H' := Aside0.mk H
                clear H
                have p132 : 0 ≤ (x7_1 : Int) := of_decide_eq_true (by first | (with_reducible assumption) | assumption)
                have q132 : x7_1 < (t129.length : Int) := of_decide_eq_true (by first | (with_reducible assumption) | assumption)
                obtain ⟨ad132, A132_2, c132_2, e132, hx132_0, hx132_1, hx132_2, hl132_2, hi132_2⟩ := at_T30 (Kd.S_reads' HO_6.out).2.2 x7_1 p132 q132
                cases e132
                obtain ⟨ce132, hce132, hMe132, hcc132⟩ := Kd.S_get HO_6.out z30 x7_1 p132 (by first | exact q132 | exact of_decide_eq_true (by first | (with_reducible assumption) | assumption) | (have e_ := (Kd.S_reads' HO_6.out).1; omega))
                obtain ⟨ve132_2, rfl, ge132_2⟩ := k30_openM hMe132
                have hv132_2 := hcc132 2 _ rfl
                rw [add_field _ _ 2 (by omega)] at hv132_2
                replace hv132_2 := Option.some.inj (hv132_2.symm.trans hx132_2)
                rw [hv132_2] at ge132_2
                have HL132_2 := Aside0.mk (show Kd.R (Kd.int .i64) 3 _ _ _ _ ((rd_T30 t129 x7_1).f2) from ge132_2)
                clear hv132_2 ge132_2
                clear hcc132 hce132
                have HR132_2 := Aside0.mk hi132_2
                have HC132_2 := Aside0.mk hl132_2
                clear hi132_2 hl132_2
                replace p132 := eq_true p132
                replace q132 := eq_true q132
                go_wp2_with (first | ((with_reducible refine gate_callee (f := 28) rfl ?_); refine goesL_ (some 22) rfl rfl Tryd.func28 (by kernel_rfl) rfl #[.string a0, .string (((rd_T30 t129 x7_1).f0) ++ (⟨#[59]⟩ : ByteArray))] rfl (by (try simp only [List.map_toArray, List.map_cons, List.map_nil]); first | done | rfl | (simp only [List.length_drop, List.length_take]; rfl)) ?_; (with_reducible refine (decanterref04_Begins.calls a0 (((rd_T30 t129 x7_1).f0) ++ (⟨#[59]⟩ : ByteArray)) false _ A9.out).mono ?_); rintro e w' ⟨rfl, ⟨nd, rfl⟩⟩; refine ⟨_, rfl, ?_⟩))
                go_meet
                case rel => exact ⟨_, (false), (by first | rfl | (simp; done) | (simp [*]; done)), H', ⟨by have := HK1.out; first | omega | exact Nat.le_refl _⟩, ⟨by (with_reducible repeat (first | apply Kd.S_alloc | apply Kd.S_drewN | apply Kd.S_drew)); exact HO_6.out⟩, ⟨by repeat (first | (with_reducible first | exact HB.out | apply below_alloc | apply pw_below_drewN | apply below_drew1) | exact HB.out)⟩⟩
            · rw [if_neg c8] at H
              exact absurd H (by simp)
          · rw [if_neg c7] at H
            exact absurd H (by simp)
        case rest =>
          clear HC5
          try clear c1
          try clear p1
          try clear q1
          try clear hx1
          try clear c2
          try clear p2
          try clear c4
          try clear c4b0
          try clear p6
          try clear c7
          try clear c7b0
          try clear c8
          try clear c8b0
          try clear c8b1
          try clear c8b2
          try clear c10
          try clear hx132_0
          try clear hx132_1
          try clear hx132_2
          try clear hx134_0
          try clear hx134_1
          try clear hx134_2
          try clear p132
          try clear p134
          try clear p2
          try clear q132
          try clear q134
          obtain ⟨kq, x33_4, rfl, HA, HJ4, HO_6, HB⟩ := hcut
          cases kq with
          | zero => exact absurd HA.out (by simp [decanterref04_Find.j1])
          | succ kj4 =>
            have H := HA.out
            clear HA
            simp only [decanterref04_Find.j1] at H
            by_cases c11 : x33_4 = true
            · subst c11
              have H1 : (if 0 ≤ x7_1 then (if x7_1 < (t129.length : Int) then ((decanterref04_Text.f kj4 ((rd_T30 t129 x7_1).f2)).bind fun t137 => (decanterref04_Find.l0 kj4 a0 (wrap64 ((((rd_T30 t129 x7_1).f0).size : Int) + 1)) t137 t129 (wrap64 (x7_1 + 1)))) else (none)) else (none)) = some (r1, r2) := by rw [if_pos rfl] at H; exact H
              clear H
              have H := H1
              clear H1
              by_cases c12 : 0 ≤ x7_1
              · rw [if_pos c12] at H
                have c12b0 : decide (0 ≤ x7_1) = true := decide_eq_true c12
                clear c12
                by_cases c13 : x7_1 < (t129.length : Int)
                · rw [if_pos c13] at H
                  have c13b0 : decide (x7_1 < (t129.length : Int)) = true := decide_eq_true c13
                  clear c13
                  replace H := Option.bind_eq_some_iff.mp H
                  obtain ⟨t137, A140, H⟩ := H
                  replace H : (decanterref04_Find.l0 kj4 a0 (wrap64 ((((rd_T30 t129 x7_1).f0).size : Int) + 1)) t137 t129 (wrap64 (x7_1 + 1))) = some (r1, r2) := H
                  have A14 := Aside0.mk A140
                  clear A140
                  have H' := Aside0.mk H
                  clear H
                  have p135 : 0 ≤ (x7_1 : Int) := of_decide_eq_true (by first | (with_reducible assumption) | assumption)
                  have q135 : x7_1 < (t129.length : Int) := of_decide_eq_true (by first | (with_reducible assumption) | assumption)
                  obtain ⟨ad135, A135_2, c135_2, e135, hx135_0, hx135_1, hx135_2, hl135_2, hi135_2⟩ := at_T30 (Kd.S_reads' HO_6.out).2.2 x7_1 p135 q135
                  cases e135
                  obtain ⟨ce135, hce135, hMe135, hcc135⟩ := Kd.S_get HO_6.out z30 x7_1 p135 (by first | exact q135 | exact of_decide_eq_true (by first | (with_reducible assumption) | assumption) | (have e_ := (Kd.S_reads' HO_6.out).1; omega))
                  obtain ⟨ve135_2, rfl, ge135_2⟩ := k30_openM hMe135
                  have hv135_2 := hcc135 2 _ rfl
                  rw [add_field _ _ 2 (by omega)] at hv135_2
                  replace hv135_2 := Option.some.inj (hv135_2.symm.trans hx135_2)
                  rw [hv135_2] at ge135_2
                  have HL135_2 := Aside0.mk (show Kd.R (Kd.int .i64) 3 _ _ _ _ ((rd_T30 t129 x7_1).f2) from ge135_2)
                  clear hv135_2 ge135_2
                  clear hcc135 hce135
                  have HR135_2 := Aside0.mk hi135_2
                  have HC135_2 := Aside0.mk hl135_2
                  clear hi135_2 hl135_2
                  replace p135 := eq_true p135
                  replace q135 := eq_true q135
                  have p136 : 0 ≤ (x7_1 : Int) := of_decide_eq_true (by first | (with_reducible assumption) | assumption)
                  have q136 : x7_1 < (t129.length : Int) := of_decide_eq_true (by first | (with_reducible assumption) | assumption)
                  obtain ⟨ad136, A136_2, c136_2, e136, hx136_0, hx136_1, hx136_2, hl136_2, hi136_2⟩ := at_T30 (Kd.S_reads' HO_6.out).2.2 x7_1 p136 q136
                  obtain rfl : ad135 = ad136 := (by injection e136)
                  obtain ⟨ce136, hce136, hMe136, hcc136⟩ := Kd.S_get HO_6.out z30 x7_1 p136 (by first | exact q136 | exact of_decide_eq_true (by first | (with_reducible assumption) | assumption) | (have e_ := (Kd.S_reads' HO_6.out).1; omega))
                  obtain ⟨ve136_2, rfl, ge136_2⟩ := k30_openM hMe136
                  have hv136_2 := hcc136 2 _ rfl
                  rw [add_field _ _ 2 (by omega)] at hv136_2
                  replace hv136_2 := Option.some.inj (hv136_2.symm.trans hx136_2)
                  rw [hv136_2] at ge136_2
                  have HL136_2 := Aside0.mk (show Kd.R (Kd.int .i64) 3 _ _ _ _ ((rd_T30 t129 x7_1).f2) from ge136_2)
                  clear hv136_2 ge136_2
                  clear hcc136 hce136
                  have HR136_2 := Aside0.mk hi136_2
                  have HC136_2 := Aside0.mk hl136_2
                  clear hi136_2 hl136_2
                  replace p136 := eq_true p136
                  replace q136 := eq_true q136
                  have ea_ := Option.some.inj (hx135_2.symm.trans hx136_2)
                  injection ea_ with ea_ en_ ec_
                  subst ea_
                  subst ec_
                  clear en_
                  go_wp2_with (first | ((with_reducible refine gate_callee (f := 29) rfl ?_); refine goesL_ (some 46) rfl rfl Tryd.func29 (by kernel_rfl) rfl #[.slice A135_2 ((rd_T30 t129 x7_1).f2).length c135_2] rfl (by (try simp only [List.map_toArray, List.map_cons, List.map_nil]); first | done | rfl | (simp only [List.length_drop, List.length_take]; rfl)) ?_; (with_reducible refine (decanterref04_Text.calls kj4 _ _ ((rd_T30 t129 x7_1).f2) t137 _ ?side1 ?side2 A14.out).mono ?_); (case side1 => repeat (first | exact (by repeat (first | (with_reducible exact HR136_2.out) | (with_reducible refine Kd.C_alloc ?_ _) | (with_reducible refine Kd.C_drewN ?_ _) | (with_reducible refine Kd.C_drew ?_) | exact HR136_2.out)) | (with_reducible refine Kd.C_alloc ?_ _) | (with_reducible refine Kd.C_drewN ?_ _) | (with_reducible refine Kd.C_drew ?_))); (case side2 => exact HC136_2.out); rintro e w15 ⟨rfl, hb⟩; refine ⟨_, rfl, ?_⟩; have n0_ := Aside0.mk (Kd.S_below (by (with_reducible repeat (first | apply Kd.S_alloc | apply Kd.S_drewN | apply Kd.S_drew)); exact HO_6.out) hb); have n1_ := Aside0.mk (Kd.R_below (by (with_reducible repeat (first | apply Kd.R_alloc | apply Kd.R_drewN | apply Kd.R_drew)); exact HL135_2.out) hb); have n2_ := Aside0.mk (Kd.R_below (by (with_reducible repeat (first | apply Kd.R_alloc | apply Kd.R_drewN | apply Kd.R_drew)); exact HL136_2.out) hb); have n3_ := Aside0.mk (Kd.C_below (by repeat (first | (with_reducible exact HR135_2.out) | (with_reducible refine Kd.C_alloc ?_ _) | (with_reducible refine Kd.C_drewN ?_ _) | (with_reducible refine Kd.C_drew ?_) | exact HR135_2.out)) hb); have n4_ := Aside0.mk (Kd.C_below (by repeat (first | (with_reducible exact HR136_2.out) | (with_reducible refine Kd.C_alloc ?_ _) | (with_reducible refine Kd.C_drewN ?_ _) | (with_reducible refine Kd.C_drew ?_) | exact HR136_2.out)) hb); have n5_ := Aside0.mk (below_step (by repeat (first | (with_reducible first | exact HB.out | apply below_alloc | apply pw_below_drewN | apply below_drew1) | exact HB.out)) hb); clear HO_6; clear HL135_2; clear HL136_2; clear HR135_2; clear HR136_2; clear HB; have HO_6 := n0_; have HL135_2 := n1_; have HL136_2 := n2_; have HR135_2 := n3_; have HR136_2 := n4_; have HB := n5_; clear n0_ n1_ n2_ n3_ n4_ n5_; (try clear hb); (try clear hb2); (try clear hk); (try clear hi)))
                  go_roundg kj4
                  case measure => have := HK1.out; have := HJ4.out; omega
                  case rel => exact ⟨(wrap64 ((((rd_T30 t129 x7_1).f0).size : Int) + 1)), (t137), (wrap64 (x7_1 + 1)), (by first | rfl | (simp; done) | (rw [Go.IntWalk.wrap64_in ((((rd_T30 t129 x7_1).f0).size : Int) + 1) (by omega)]; done) | (rw [Go.IntWalk.wrap64_in ((((rd_T30 t129 x7_1).f0).size : Int) + 1) (by omega)]; simp; done) | (simp [*]; done)), (by first | rfl | (simp; done) | (rw [Go.IntWalk.wrap64_in ((((rd_T30 t129 x7_1).f0).size : Int) + 1) (by omega)]; done) | (rw [Go.IntWalk.wrap64_in ((((rd_T30 t129 x7_1).f0).size : Int) + 1) (by omega)]; simp; done) | (simp [*]; done)), (by first | rfl | (simp; done) | (rw [Go.IntWalk.wrap64_in ((((rd_T30 t129 x7_1).f0).size : Int) + 1) (by omega)]; done) | (rw [Go.IntWalk.wrap64_in ((((rd_T30 t129 x7_1).f0).size : Int) + 1) (by omega)]; simp; done) | (simp [*]; done)), H', ⟨by have := HK1.out; have := HJ4.out; omega⟩, ⟨by (with_reducible repeat (first | apply Kd.S_alloc | apply Kd.S_drewN | apply Kd.S_drew)); exact HO_6.out⟩, ⟨by repeat (first | (with_reducible first | exact HB.out | apply below_alloc | apply pw_below_drewN | apply below_drew1) | exact HB.out)⟩⟩
                · rw [if_neg c13] at H
                  exact absurd H (by simp)
              · rw [if_neg c12] at H
                exact absurd H (by simp)
            · replace c11 := Bool.eq_false_iff.mpr c11
              subst c11
              have H1 : (if 0 ≤ x7_1 then (if x7_1 < (t129.length : Int) then (if (rd_T30 t129 x7_1).f1 = true then ((decanterref04_Begins.f a0 ((rd_T30 t129 x7_1).f0)).bind fun t140 => (if t140 = true then (if (((rd_T30 t129 x7_1).f0).size : Int) > x4_1 then ((decanterref04_Text.f kj4 ((rd_T30 t129 x7_1).f2)).bind fun t144 => (decanterref04_Find.l0 kj4 a0 (((rd_T30 t129 x7_1).f0).size : Int) t144 t129 (wrap64 (x7_1 + 1)))) else (decanterref04_Find.l0 kj4 a0 x4_1 x5_1 t129 (wrap64 (x7_1 + 1)))) else (decanterref04_Find.l0 kj4 a0 x4_1 x5_1 t129 (wrap64 (x7_1 + 1))))) else (decanterref04_Find.l0 kj4 a0 x4_1 x5_1 t129 (wrap64 (x7_1 + 1)))) else (none)) else (none)) = some (r1, r2) := by rw [if_neg (show ¬ (false = true) by decide)] at H; exact H
              clear H
              have H := H1
              clear H1
              by_cases c16 : 0 ≤ x7_1
              · rw [if_pos c16] at H
                have c16b0 : decide (0 ≤ x7_1) = true := decide_eq_true c16
                clear c16
                by_cases c17 : x7_1 < (t129.length : Int)
                · rw [if_pos c17] at H
                  have c17b0 : decide (x7_1 < (t129.length : Int)) = true := decide_eq_true c17
                  clear c17
                  obtain ⟨bq18, hbq18⟩ : ∃ b_ : Bool, b_ = ((rd_T30 t129 x7_1).f1) := ⟨_, rfl⟩
                  replace H : (if bq18 = true then ((decanterref04_Begins.f a0 ((rd_T30 t129 x7_1).f0)).bind fun t140 => (if t140 = true then (if (((rd_T30 t129 x7_1).f0).size : Int) > x4_1 then ((decanterref04_Text.f kj4 ((rd_T30 t129 x7_1).f2)).bind fun t144 => (decanterref04_Find.l0 kj4 a0 (((rd_T30 t129 x7_1).f0).size : Int) t144 t129 (wrap64 (x7_1 + 1)))) else (decanterref04_Find.l0 kj4 a0 x4_1 x5_1 t129 (wrap64 (x7_1 + 1)))) else (decanterref04_Find.l0 kj4 a0 x4_1 x5_1 t129 (wrap64 (x7_1 + 1))))) else (decanterref04_Find.l0 kj4 a0 x4_1 x5_1 t129 (wrap64 (x7_1 + 1)))) = some (r1, r2) := by rw [← hbq18] at H; exact H
                  have Nbq18 := Aside0.mk hbq18
                  clear hbq18
                  by_cases c19 : bq18 = true
                  · subst c19
                    have H1 : ((decanterref04_Begins.f a0 ((rd_T30 t129 x7_1).f0)).bind fun t140 => (if t140 = true then (if (((rd_T30 t129 x7_1).f0).size : Int) > x4_1 then ((decanterref04_Text.f kj4 ((rd_T30 t129 x7_1).f2)).bind fun t144 => (decanterref04_Find.l0 kj4 a0 (((rd_T30 t129 x7_1).f0).size : Int) t144 t129 (wrap64 (x7_1 + 1)))) else (decanterref04_Find.l0 kj4 a0 x4_1 x5_1 t129 (wrap64 (x7_1 + 1)))) else (decanterref04_Find.l0 kj4 a0 x4_1 x5_1 t129 (wrap64 (x7_1 + 1))))) = some (r1, r2) := by rw [if_pos rfl] at H; exact H
                    clear H
                    have H := H1
                    clear H1
                    replace H := Option.bind_eq_some_iff.mp H
                    obtain ⟨t140, A200, H⟩ := H
                    replace H : (if t140 = true then (if (((rd_T30 t129 x7_1).f0).size : Int) > x4_1 then ((decanterref04_Text.f kj4 ((rd_T30 t129 x7_1).f2)).bind fun t144 => (decanterref04_Find.l0 kj4 a0 (((rd_T30 t129 x7_1).f0).size : Int) t144 t129 (wrap64 (x7_1 + 1)))) else (decanterref04_Find.l0 kj4 a0 x4_1 x5_1 t129 (wrap64 (x7_1 + 1)))) else (decanterref04_Find.l0 kj4 a0 x4_1 x5_1 t129 (wrap64 (x7_1 + 1)))) = some (r1, r2) := H
                    have A20 := Aside0.mk A200
                    clear A200
                    by_cases c21 : t140 = true
                    · subst c21
                      have H1 : (if (((rd_T30 t129 x7_1).f0).size : Int) > x4_1 then ((decanterref04_Text.f kj4 ((rd_T30 t129 x7_1).f2)).bind fun t144 => (decanterref04_Find.l0 kj4 a0 (((rd_T30 t129 x7_1).f0).size : Int) t144 t129 (wrap64 (x7_1 + 1)))) else (decanterref04_Find.l0 kj4 a0 x4_1 x5_1 t129 (wrap64 (x7_1 + 1)))) = some (r1, r2) := by rw [if_pos rfl] at H; exact H
                      clear H
                      have H := H1
                      clear H1
                      by_cases c22 : (((rd_T30 t129 x7_1).f0).size : Int) > x4_1
                      · rw [if_pos c22] at H
                        have c22b0 : decide (x4_1 < (((rd_T30 t129 x7_1).f0).size : Int)) = true := decide_eq_true c22
                        clear c22
                        replace H := Option.bind_eq_some_iff.mp H
                        obtain ⟨t144, A230, H⟩ := H
                        replace H : (decanterref04_Find.l0 kj4 a0 (((rd_T30 t129 x7_1).f0).size : Int) t144 t129 (wrap64 (x7_1 + 1))) = some (r1, r2) := H
                        have A23 := Aside0.mk A230
                        clear A230
                        have H' := Aside0.mk H
                        clear H
                        have p138 : 0 ≤ (x7_1 : Int) := of_decide_eq_true (by first | (with_reducible assumption) | assumption)
                        have q138 : x7_1 < (t129.length : Int) := of_decide_eq_true (by first | (with_reducible assumption) | assumption)
                        obtain ⟨ad138, A138_2, c138_2, e138, hx138_0, hx138_1, hx138_2, hl138_2, hi138_2⟩ := at_T30 (Kd.S_reads' HO_6.out).2.2 x7_1 p138 q138
                        (try rw [← Nbq18.out] at hx138_1)
                        cases e138
                        obtain ⟨ce138, hce138, hMe138, hcc138⟩ := Kd.S_get HO_6.out z30 x7_1 p138 (by first | exact q138 | exact of_decide_eq_true (by first | (with_reducible assumption) | assumption) | (have e_ := (Kd.S_reads' HO_6.out).1; omega))
                        obtain ⟨ve138_2, rfl, ge138_2⟩ := k30_openM hMe138
                        have hv138_2 := hcc138 2 _ rfl
                        rw [add_field _ _ 2 (by omega)] at hv138_2
                        replace hv138_2 := Option.some.inj (hv138_2.symm.trans hx138_2)
                        rw [hv138_2] at ge138_2
                        have HL138_2 := Aside0.mk (show Kd.R (Kd.int .i64) 3 _ _ _ _ ((rd_T30 t129 x7_1).f2) from ge138_2)
                        clear hv138_2 ge138_2
                        clear hcc138 hce138
                        have HR138_2 := Aside0.mk hi138_2
                        have HC138_2 := Aside0.mk hl138_2
                        clear hi138_2 hl138_2
                        replace p138 := eq_true p138
                        replace q138 := eq_true q138
                        have p139 : 0 ≤ (x7_1 : Int) := of_decide_eq_true (by first | (with_reducible assumption) | assumption)
                        have q139 : x7_1 < (t129.length : Int) := of_decide_eq_true (by first | (with_reducible assumption) | assumption)
                        obtain ⟨ad139, A139_2, c139_2, e139, hx139_0, hx139_1, hx139_2, hl139_2, hi139_2⟩ := at_T30 (Kd.S_reads' HO_6.out).2.2 x7_1 p139 q139
                        (try rw [← Nbq18.out] at hx139_1)
                        obtain rfl : ad138 = ad139 := (by injection e139)
                        obtain ⟨ce139, hce139, hMe139, hcc139⟩ := Kd.S_get HO_6.out z30 x7_1 p139 (by first | exact q139 | exact of_decide_eq_true (by first | (with_reducible assumption) | assumption) | (have e_ := (Kd.S_reads' HO_6.out).1; omega))
                        obtain ⟨ve139_2, rfl, ge139_2⟩ := k30_openM hMe139
                        have hv139_2 := hcc139 2 _ rfl
                        rw [add_field _ _ 2 (by omega)] at hv139_2
                        replace hv139_2 := Option.some.inj (hv139_2.symm.trans hx139_2)
                        rw [hv139_2] at ge139_2
                        have HL139_2 := Aside0.mk (show Kd.R (Kd.int .i64) 3 _ _ _ _ ((rd_T30 t129 x7_1).f2) from ge139_2)
                        clear hv139_2 ge139_2
                        clear hcc139 hce139
                        have HR139_2 := Aside0.mk hi139_2
                        have HC139_2 := Aside0.mk hl139_2
                        clear hi139_2 hl139_2
                        replace p139 := eq_true p139
                        replace q139 := eq_true q139
                        have ea_ := Option.some.inj (hx138_2.symm.trans hx139_2)
                        injection ea_ with ea_ en_ ec_
                        subst ea_
                        subst ec_
                        clear en_
                        go_wp2_with (first | (go_at_call 28; (with_reducible refine (decanterref04_Begins.calls a0 ((rd_T30 t129 x7_1).f0) true _ A20.out).mono ?_); rintro e w' ⟨rfl, ⟨nd, rfl⟩⟩; have p141 : 0 ≤ (x7_1 : Int) := of_decide_eq_true (by first | (with_reducible assumption) | assumption); have q141 : x7_1 < (t129.length : Int) := of_decide_eq_true (by first | (with_reducible assumption) | assumption); obtain ⟨ad141, A141_2, c141_2, e141, hx141_0, hx141_1, hx141_2, hl141_2, hi141_2⟩ := at_T30 (Kd.S_reads' HO_6.out).2.2 x7_1 p141 q141; (try rw [← Nbq18.out] at hx141_1); obtain rfl : ad138 = ad141 := (by injection e141); obtain ⟨ce141, hce141, hMe141, hcc141⟩ := Kd.S_get HO_6.out z30 x7_1 p141 (by first | exact q141 | exact of_decide_eq_true (by first | (with_reducible assumption) | assumption) | (have e_ := (Kd.S_reads' HO_6.out).1; omega)); obtain ⟨ve141_2, rfl, ge141_2⟩ := k30_openM hMe141; have hv141_2 := hcc141 2 _ rfl; rw [add_field _ _ 2 (by omega)] at hv141_2; replace hv141_2 := Option.some.inj (hv141_2.symm.trans hx141_2); rw [hv141_2] at ge141_2; have HL141_2 := Aside0.mk (show Kd.R (Kd.int .i64) 3 _ _ _ _ ((rd_T30 t129 x7_1).f2) from ge141_2); clear hv141_2 ge141_2; clear hcc141 hce141; have HR141_2 := Aside0.mk hi141_2; have HC141_2 := Aside0.mk hl141_2; clear hi141_2 hl141_2; replace p141 := eq_true p141; replace q141 := eq_true q141; have ea_ := Option.some.inj (hx138_2.symm.trans hx141_2); injection ea_ with ea_ en_ ec_; subst ea_; subst ec_; clear en_; have p142 : 0 ≤ (x7_1 : Int) := of_decide_eq_true (by first | (with_reducible assumption) | assumption); have q142 : x7_1 < (t129.length : Int) := of_decide_eq_true (by first | (with_reducible assumption) | assumption); obtain ⟨ad142, A142_2, c142_2, e142, hx142_0, hx142_1, hx142_2, hl142_2, hi142_2⟩ := at_T30 (Kd.S_reads' HO_6.out).2.2 x7_1 p142 q142; (try rw [← Nbq18.out] at hx142_1); obtain rfl : ad138 = ad142 := (by injection e142); obtain ⟨ce142, hce142, hMe142, hcc142⟩ := Kd.S_get HO_6.out z30 x7_1 p142 (by first | exact q142 | exact of_decide_eq_true (by first | (with_reducible assumption) | assumption) | (have e_ := (Kd.S_reads' HO_6.out).1; omega)); obtain ⟨ve142_2, rfl, ge142_2⟩ := k30_openM hMe142; have hv142_2 := hcc142 2 _ rfl; rw [add_field _ _ 2 (by omega)] at hv142_2; replace hv142_2 := Option.some.inj (hv142_2.symm.trans hx142_2); rw [hv142_2] at ge142_2; have HL142_2 := Aside0.mk (show Kd.R (Kd.int .i64) 3 _ _ _ _ ((rd_T30 t129 x7_1).f2) from ge142_2); clear hv142_2 ge142_2; clear hcc142 hce142; have HR142_2 := Aside0.mk hi142_2; have HC142_2 := Aside0.mk hl142_2; clear hi142_2 hl142_2; replace p142 := eq_true p142; replace q142 := eq_true q142; have ea_ := Option.some.inj (hx138_2.symm.trans hx142_2); injection ea_ with ea_ en_ ec_; subst ea_; subst ec_; clear en_; have p143 : 0 ≤ (x7_1 : Int) := of_decide_eq_true (by first | (with_reducible assumption) | assumption); have q143 : x7_1 < (t129.length : Int) := of_decide_eq_true (by first | (with_reducible assumption) | assumption); obtain ⟨ad143, A143_2, c143_2, e143, hx143_0, hx143_1, hx143_2, hl143_2, hi143_2⟩ := at_T30 (Kd.S_reads' HO_6.out).2.2 x7_1 p143 q143; (try rw [← Nbq18.out] at hx143_1); obtain rfl : ad138 = ad143 := (by injection e143); obtain ⟨ce143, hce143, hMe143, hcc143⟩ := Kd.S_get HO_6.out z30 x7_1 p143 (by first | exact q143 | exact of_decide_eq_true (by first | (with_reducible assumption) | assumption) | (have e_ := (Kd.S_reads' HO_6.out).1; omega)); obtain ⟨ve143_2, rfl, ge143_2⟩ := k30_openM hMe143; have hv143_2 := hcc143 2 _ rfl; rw [add_field _ _ 2 (by omega)] at hv143_2; replace hv143_2 := Option.some.inj (hv143_2.symm.trans hx143_2); rw [hv143_2] at ge143_2; have HL143_2 := Aside0.mk (show Kd.R (Kd.int .i64) 3 _ _ _ _ ((rd_T30 t129 x7_1).f2) from ge143_2); clear hv143_2 ge143_2; clear hcc143 hce143; have HR143_2 := Aside0.mk hi143_2; have HC143_2 := Aside0.mk hl143_2; clear hi143_2 hl143_2; replace p143 := eq_true p143; replace q143 := eq_true q143; have ea_ := Option.some.inj (hx138_2.symm.trans hx143_2); injection ea_ with ea_ en_ ec_; subst ea_; subst ec_; clear en_) | ((with_reducible refine gate_callee (f := 29) rfl ?_); refine goesL_ (some 82) rfl rfl Tryd.func29 (by kernel_rfl) rfl #[.slice A138_2 ((rd_T30 t129 x7_1).f2).length c138_2] rfl (by (try simp only [List.map_toArray, List.map_cons, List.map_nil]); first | done | rfl | (simp only [List.length_drop, List.length_take]; rfl)) ?_; (with_reducible refine (decanterref04_Text.calls kj4 _ _ ((rd_T30 t129 x7_1).f2) t144 _ ?side1 ?side2 A23.out).mono ?_); (case side1 => repeat (first | exact (by repeat (first | (with_reducible exact HR143_2.out) | (with_reducible refine Kd.C_alloc ?_ _) | (with_reducible refine Kd.C_drewN ?_ _) | (with_reducible refine Kd.C_drew ?_) | exact HR143_2.out)) | (with_reducible refine Kd.C_alloc ?_ _) | (with_reducible refine Kd.C_drewN ?_ _) | (with_reducible refine Kd.C_drew ?_))); (case side2 => exact HC143_2.out); rintro e w24 ⟨rfl, hb⟩; refine ⟨_, rfl, ?_⟩; have n0_ := Aside0.mk (Kd.S_below (by (with_reducible repeat (first | apply Kd.S_alloc | apply Kd.S_drewN | apply Kd.S_drew)); exact HO_6.out) hb); have n1_ := Aside0.mk (Kd.R_below (by (with_reducible repeat (first | apply Kd.R_alloc | apply Kd.R_drewN | apply Kd.R_drew)); exact HL138_2.out) hb); have n2_ := Aside0.mk (Kd.R_below (by (with_reducible repeat (first | apply Kd.R_alloc | apply Kd.R_drewN | apply Kd.R_drew)); exact HL139_2.out) hb); have n3_ := Aside0.mk (Kd.R_below (by (with_reducible repeat (first | apply Kd.R_alloc | apply Kd.R_drewN | apply Kd.R_drew)); exact HL141_2.out) hb); have n4_ := Aside0.mk (Kd.R_below (by (with_reducible repeat (first | apply Kd.R_alloc | apply Kd.R_drewN | apply Kd.R_drew)); exact HL142_2.out) hb); have n5_ := Aside0.mk (Kd.R_below (by (with_reducible repeat (first | apply Kd.R_alloc | apply Kd.R_drewN | apply Kd.R_drew)); exact HL143_2.out) hb); have n6_ := Aside0.mk (Kd.C_below (by repeat (first | (with_reducible exact HR138_2.out) | (with_reducible refine Kd.C_alloc ?_ _) | (with_reducible refine Kd.C_drewN ?_ _) | (with_reducible refine Kd.C_drew ?_) | exact HR138_2.out)) hb); have n7_ := Aside0.mk (Kd.C_below (by repeat (first | (with_reducible exact HR139_2.out) | (with_reducible refine Kd.C_alloc ?_ _) | (with_reducible refine Kd.C_drewN ?_ _) | (with_reducible refine Kd.C_drew ?_) | exact HR139_2.out)) hb); have n8_ := Aside0.mk (Kd.C_below (by repeat (first | (with_reducible exact HR141_2.out) | (with_reducible refine Kd.C_alloc ?_ _) | (with_reducible refine Kd.C_drewN ?_ _) | (with_reducible refine Kd.C_drew ?_) | exact HR141_2.out)) hb); have n9_ := Aside0.mk (Kd.C_below (by repeat (first | (with_reducible exact HR142_2.out) | (with_reducible refine Kd.C_alloc ?_ _) | (with_reducible refine Kd.C_drewN ?_ _) | (with_reducible refine Kd.C_drew ?_) | exact HR142_2.out)) hb); have n10_ := Aside0.mk (Kd.C_below (by repeat (first | (with_reducible exact HR143_2.out) | (with_reducible refine Kd.C_alloc ?_ _) | (with_reducible refine Kd.C_drewN ?_ _) | (with_reducible refine Kd.C_drew ?_) | exact HR143_2.out)) hb); have n11_ := Aside0.mk (below_step (by repeat (first | (with_reducible first | exact HB.out | apply below_alloc | apply pw_below_drewN | apply below_drew1) | exact HB.out)) hb); clear HO_6; clear HL138_2; clear HL139_2; clear HL141_2; clear HL142_2; clear HL143_2; clear HR138_2; clear HR139_2; clear HR141_2; clear HR142_2; clear HR143_2; clear HB; have HO_6 := n0_; have HL138_2 := n1_; have HL139_2 := n2_; have HL141_2 := n3_; have HL142_2 := n4_; have HL143_2 := n5_; have HR138_2 := n6_; have HR139_2 := n7_; have HR141_2 := n8_; have HR142_2 := n9_; have HR143_2 := n10_; have HB := n11_; clear n0_ n1_ n2_ n3_ n4_ n5_ n6_ n7_ n8_ n9_ n10_ n11_; (try clear hb); (try clear hb2); (try clear hk); (try clear hi)))
                        go_roundg kj4
                        case measure => have := HK1.out; have := HJ4.out; omega
                        case rel => exact ⟨((((rd_T30 t129 x7_1).f0).size : Int)), (t144), (wrap64 (x7_1 + 1)), (by first | rfl | (simp; done) | (rw [Go.IntWalk.wrap64_in (x7_1 + 1) (by omega)]; done) | (rw [Go.IntWalk.wrap64_in (x7_1 + 1) (by omega)]; simp; done) | (simp [*]; done)), (by first | rfl | (simp; done) | (rw [Go.IntWalk.wrap64_in (x7_1 + 1) (by omega)]; done) | (rw [Go.IntWalk.wrap64_in (x7_1 + 1) (by omega)]; simp; done) | (simp [*]; done)), (by first | rfl | (simp; done) | (rw [Go.IntWalk.wrap64_in (x7_1 + 1) (by omega)]; done) | (rw [Go.IntWalk.wrap64_in (x7_1 + 1) (by omega)]; simp; done) | (simp [*]; done)), H', ⟨by have := HK1.out; have := HJ4.out; omega⟩, ⟨by (with_reducible repeat (first | apply Kd.S_alloc | apply Kd.S_drewN | apply Kd.S_drew)); exact HO_6.out⟩, ⟨by repeat (first | (with_reducible first | exact HB.out | apply below_alloc | apply pw_below_drewN | apply below_drew1) | exact HB.out)⟩⟩
                      · rw [if_neg c22] at H
                        have c22b0 : decide (x4_1 < (((rd_T30 t129 x7_1).f0).size : Int)) = false := decide_eq_false c22
                        clear c22
                        have H' := Aside0.mk H
                        clear H
                        have p138 : 0 ≤ (x7_1 : Int) := of_decide_eq_true (by first | (with_reducible assumption) | assumption)
                        have q138 : x7_1 < (t129.length : Int) := of_decide_eq_true (by first | (with_reducible assumption) | assumption)
                        obtain ⟨ad138, A138_2, c138_2, e138, hx138_0, hx138_1, hx138_2, hl138_2, hi138_2⟩ := at_T30 (Kd.S_reads' HO_6.out).2.2 x7_1 p138 q138
                        (try rw [← Nbq18.out] at hx138_1)
                        cases e138
                        obtain ⟨ce138, hce138, hMe138, hcc138⟩ := Kd.S_get HO_6.out z30 x7_1 p138 (by first | exact q138 | exact of_decide_eq_true (by first | (with_reducible assumption) | assumption) | (have e_ := (Kd.S_reads' HO_6.out).1; omega))
                        obtain ⟨ve138_2, rfl, ge138_2⟩ := k30_openM hMe138
                        have hv138_2 := hcc138 2 _ rfl
                        rw [add_field _ _ 2 (by omega)] at hv138_2
                        replace hv138_2 := Option.some.inj (hv138_2.symm.trans hx138_2)
                        rw [hv138_2] at ge138_2
                        have HL138_2 := Aside0.mk (show Kd.R (Kd.int .i64) 3 _ _ _ _ ((rd_T30 t129 x7_1).f2) from ge138_2)
                        clear hv138_2 ge138_2
                        clear hcc138 hce138
                        have HR138_2 := Aside0.mk hi138_2
                        have HC138_2 := Aside0.mk hl138_2
                        clear hi138_2 hl138_2
                        replace p138 := eq_true p138
                        replace q138 := eq_true q138
                        have p139 : 0 ≤ (x7_1 : Int) := of_decide_eq_true (by first | (with_reducible assumption) | assumption)
                        have q139 : x7_1 < (t129.length : Int) := of_decide_eq_true (by first | (with_reducible assumption) | assumption)
                        obtain ⟨ad139, A139_2, c139_2, e139, hx139_0, hx139_1, hx139_2, hl139_2, hi139_2⟩ := at_T30 (Kd.S_reads' HO_6.out).2.2 x7_1 p139 q139
                        (try rw [← Nbq18.out] at hx139_1)
                        obtain rfl : ad138 = ad139 := (by injection e139)
                        obtain ⟨ce139, hce139, hMe139, hcc139⟩ := Kd.S_get HO_6.out z30 x7_1 p139 (by first | exact q139 | exact of_decide_eq_true (by first | (with_reducible assumption) | assumption) | (have e_ := (Kd.S_reads' HO_6.out).1; omega))
                        obtain ⟨ve139_2, rfl, ge139_2⟩ := k30_openM hMe139
                        have hv139_2 := hcc139 2 _ rfl
                        rw [add_field _ _ 2 (by omega)] at hv139_2
                        replace hv139_2 := Option.some.inj (hv139_2.symm.trans hx139_2)
                        rw [hv139_2] at ge139_2
                        have HL139_2 := Aside0.mk (show Kd.R (Kd.int .i64) 3 _ _ _ _ ((rd_T30 t129 x7_1).f2) from ge139_2)
                        clear hv139_2 ge139_2
                        clear hcc139 hce139
                        have HR139_2 := Aside0.mk hi139_2
                        have HC139_2 := Aside0.mk hl139_2
                        clear hi139_2 hl139_2
                        replace p139 := eq_true p139
                        replace q139 := eq_true q139
                        have ea_ := Option.some.inj (hx138_2.symm.trans hx139_2)
                        injection ea_ with ea_ en_ ec_
                        subst ea_
                        subst ec_
                        clear en_
                        go_wp2_with (first | (go_at_call 28; (with_reducible refine (decanterref04_Begins.calls a0 ((rd_T30 t129 x7_1).f0) true _ A20.out).mono ?_); rintro e w' ⟨rfl, ⟨nd, rfl⟩⟩; have p141 : 0 ≤ (x7_1 : Int) := of_decide_eq_true (by first | (with_reducible assumption) | assumption); have q141 : x7_1 < (t129.length : Int) := of_decide_eq_true (by first | (with_reducible assumption) | assumption); obtain ⟨ad141, A141_2, c141_2, e141, hx141_0, hx141_1, hx141_2, hl141_2, hi141_2⟩ := at_T30 (Kd.S_reads' HO_6.out).2.2 x7_1 p141 q141; (try rw [← Nbq18.out] at hx141_1); obtain rfl : ad138 = ad141 := (by injection e141); obtain ⟨ce141, hce141, hMe141, hcc141⟩ := Kd.S_get HO_6.out z30 x7_1 p141 (by first | exact q141 | exact of_decide_eq_true (by first | (with_reducible assumption) | assumption) | (have e_ := (Kd.S_reads' HO_6.out).1; omega)); obtain ⟨ve141_2, rfl, ge141_2⟩ := k30_openM hMe141; have hv141_2 := hcc141 2 _ rfl; rw [add_field _ _ 2 (by omega)] at hv141_2; replace hv141_2 := Option.some.inj (hv141_2.symm.trans hx141_2); rw [hv141_2] at ge141_2; have HL141_2 := Aside0.mk (show Kd.R (Kd.int .i64) 3 _ _ _ _ ((rd_T30 t129 x7_1).f2) from ge141_2); clear hv141_2 ge141_2; clear hcc141 hce141; have HR141_2 := Aside0.mk hi141_2; have HC141_2 := Aside0.mk hl141_2; clear hi141_2 hl141_2; replace p141 := eq_true p141; replace q141 := eq_true q141; have ea_ := Option.some.inj (hx138_2.symm.trans hx141_2); injection ea_ with ea_ en_ ec_; subst ea_; subst ec_; clear en_))
                        go_roundg kj4
                        case measure => have := HK1.out; have := HJ4.out; omega
                        case rel => exact ⟨(x4_1), (x5_1), (wrap64 (x7_1 + 1)), (by first | rfl | (simp; done) | (rw [Go.IntWalk.wrap64_in (x7_1 + 1) (by omega)]; done) | (rw [Go.IntWalk.wrap64_in (x7_1 + 1) (by omega)]; simp; done) | (simp [*]; done)), (by first | rfl | (simp; done) | (rw [Go.IntWalk.wrap64_in (x7_1 + 1) (by omega)]; done) | (rw [Go.IntWalk.wrap64_in (x7_1 + 1) (by omega)]; simp; done) | (simp [*]; done)), (by first | rfl | (simp; done) | (rw [Go.IntWalk.wrap64_in (x7_1 + 1) (by omega)]; done) | (rw [Go.IntWalk.wrap64_in (x7_1 + 1) (by omega)]; simp; done) | (simp [*]; done)), H', ⟨by have := HK1.out; have := HJ4.out; omega⟩, ⟨by (with_reducible repeat (first | apply Kd.S_alloc | apply Kd.S_drewN | apply Kd.S_drew)); exact HO_6.out⟩, ⟨by repeat (first | (with_reducible first | exact HB.out | apply below_alloc | apply pw_below_drewN | apply below_drew1) | exact HB.out)⟩⟩
                    · replace c21 := Bool.eq_false_iff.mpr c21
                      subst c21
                      have H1 : (decanterref04_Find.l0 kj4 a0 x4_1 x5_1 t129 (wrap64 (x7_1 + 1))) = some (r1, r2) := by rw [if_neg (show ¬ (false = true) by decide)] at H; exact H
                      clear H
                      have H := H1
                      clear H1
                      have H' := Aside0.mk H
                      clear H
                      have p138 : 0 ≤ (x7_1 : Int) := of_decide_eq_true (by first | (with_reducible assumption) | assumption)
                      have q138 : x7_1 < (t129.length : Int) := of_decide_eq_true (by first | (with_reducible assumption) | assumption)
                      obtain ⟨ad138, A138_2, c138_2, e138, hx138_0, hx138_1, hx138_2, hl138_2, hi138_2⟩ := at_T30 (Kd.S_reads' HO_6.out).2.2 x7_1 p138 q138
                      (try rw [← Nbq18.out] at hx138_1)
                      cases e138
                      obtain ⟨ce138, hce138, hMe138, hcc138⟩ := Kd.S_get HO_6.out z30 x7_1 p138 (by first | exact q138 | exact of_decide_eq_true (by first | (with_reducible assumption) | assumption) | (have e_ := (Kd.S_reads' HO_6.out).1; omega))
                      obtain ⟨ve138_2, rfl, ge138_2⟩ := k30_openM hMe138
                      have hv138_2 := hcc138 2 _ rfl
                      rw [add_field _ _ 2 (by omega)] at hv138_2
                      replace hv138_2 := Option.some.inj (hv138_2.symm.trans hx138_2)
                      rw [hv138_2] at ge138_2
                      have HL138_2 := Aside0.mk (show Kd.R (Kd.int .i64) 3 _ _ _ _ ((rd_T30 t129 x7_1).f2) from ge138_2)
                      clear hv138_2 ge138_2
                      clear hcc138 hce138
                      have HR138_2 := Aside0.mk hi138_2
                      have HC138_2 := Aside0.mk hl138_2
                      clear hi138_2 hl138_2
                      replace p138 := eq_true p138
                      replace q138 := eq_true q138
                      have p139 : 0 ≤ (x7_1 : Int) := of_decide_eq_true (by first | (with_reducible assumption) | assumption)
                      have q139 : x7_1 < (t129.length : Int) := of_decide_eq_true (by first | (with_reducible assumption) | assumption)
                      obtain ⟨ad139, A139_2, c139_2, e139, hx139_0, hx139_1, hx139_2, hl139_2, hi139_2⟩ := at_T30 (Kd.S_reads' HO_6.out).2.2 x7_1 p139 q139
                      (try rw [← Nbq18.out] at hx139_1)
                      obtain rfl : ad138 = ad139 := (by injection e139)
                      obtain ⟨ce139, hce139, hMe139, hcc139⟩ := Kd.S_get HO_6.out z30 x7_1 p139 (by first | exact q139 | exact of_decide_eq_true (by first | (with_reducible assumption) | assumption) | (have e_ := (Kd.S_reads' HO_6.out).1; omega))
                      obtain ⟨ve139_2, rfl, ge139_2⟩ := k30_openM hMe139
                      have hv139_2 := hcc139 2 _ rfl
                      rw [add_field _ _ 2 (by omega)] at hv139_2
                      replace hv139_2 := Option.some.inj (hv139_2.symm.trans hx139_2)
                      rw [hv139_2] at ge139_2
                      have HL139_2 := Aside0.mk (show Kd.R (Kd.int .i64) 3 _ _ _ _ ((rd_T30 t129 x7_1).f2) from ge139_2)
                      clear hv139_2 ge139_2
                      clear hcc139 hce139
                      have HR139_2 := Aside0.mk hi139_2
                      have HC139_2 := Aside0.mk hl139_2
                      clear hi139_2 hl139_2
                      replace p139 := eq_true p139
                      replace q139 := eq_true q139
                      have ea_ := Option.some.inj (hx138_2.symm.trans hx139_2)
                      injection ea_ with ea_ en_ ec_
                      subst ea_
                      subst ec_
                      clear en_
                      go_wp2_with (first | (go_at_call 28; (with_reducible refine (decanterref04_Begins.calls a0 ((rd_T30 t129 x7_1).f0) false _ A20.out).mono ?_); rintro e w' ⟨rfl, ⟨nd, rfl⟩⟩))
                      go_roundg kj4
                      case measure => have := HK1.out; have := HJ4.out; omega
                      case rel => exact ⟨(x4_1), (x5_1), (wrap64 (x7_1 + 1)), (by first | rfl | (simp; done) | (rw [Go.IntWalk.wrap64_in (x7_1 + 1) (by omega)]; done) | (rw [Go.IntWalk.wrap64_in (x7_1 + 1) (by omega)]; simp; done) | (simp [*]; done)), (by first | rfl | (simp; done) | (rw [Go.IntWalk.wrap64_in (x7_1 + 1) (by omega)]; done) | (rw [Go.IntWalk.wrap64_in (x7_1 + 1) (by omega)]; simp; done) | (simp [*]; done)), (by first | rfl | (simp; done) | (rw [Go.IntWalk.wrap64_in (x7_1 + 1) (by omega)]; done) | (rw [Go.IntWalk.wrap64_in (x7_1 + 1) (by omega)]; simp; done) | (simp [*]; done)), H', ⟨by have := HK1.out; have := HJ4.out; omega⟩, ⟨by (with_reducible repeat (first | apply Kd.S_alloc | apply Kd.S_drewN | apply Kd.S_drew)); exact HO_6.out⟩, ⟨by repeat (first | (with_reducible first | exact HB.out | apply below_alloc | apply pw_below_drewN | apply below_drew1) | exact HB.out)⟩⟩
                  · replace c19 := Bool.eq_false_iff.mpr c19
                    subst c19
                    have H1 : (decanterref04_Find.l0 kj4 a0 x4_1 x5_1 t129 (wrap64 (x7_1 + 1))) = some (r1, r2) := by rw [if_neg (show ¬ (false = true) by decide)] at H; exact H
                    clear H
                    have H := H1
                    clear H1
                    have H' := Aside0.mk H
                    clear H
                    have p138 : 0 ≤ (x7_1 : Int) := of_decide_eq_true (by first | (with_reducible assumption) | assumption)
                    have q138 : x7_1 < (t129.length : Int) := of_decide_eq_true (by first | (with_reducible assumption) | assumption)
                    obtain ⟨ad138, A138_2, c138_2, e138, hx138_0, hx138_1, hx138_2, hl138_2, hi138_2⟩ := at_T30 (Kd.S_reads' HO_6.out).2.2 x7_1 p138 q138
                    (try rw [← Nbq18.out] at hx138_1)
                    cases e138
                    obtain ⟨ce138, hce138, hMe138, hcc138⟩ := Kd.S_get HO_6.out z30 x7_1 p138 (by first | exact q138 | exact of_decide_eq_true (by first | (with_reducible assumption) | assumption) | (have e_ := (Kd.S_reads' HO_6.out).1; omega))
                    obtain ⟨ve138_2, rfl, ge138_2⟩ := k30_openM hMe138
                    have hv138_2 := hcc138 2 _ rfl
                    rw [add_field _ _ 2 (by omega)] at hv138_2
                    replace hv138_2 := Option.some.inj (hv138_2.symm.trans hx138_2)
                    rw [hv138_2] at ge138_2
                    have HL138_2 := Aside0.mk (show Kd.R (Kd.int .i64) 3 _ _ _ _ ((rd_T30 t129 x7_1).f2) from ge138_2)
                    clear hv138_2 ge138_2
                    clear hcc138 hce138
                    have HR138_2 := Aside0.mk hi138_2
                    have HC138_2 := Aside0.mk hl138_2
                    clear hi138_2 hl138_2
                    replace p138 := eq_true p138
                    replace q138 := eq_true q138
                    go_wp2
                    go_roundg kj4
                    case measure => have := HK1.out; have := HJ4.out; omega
                    case rel => exact ⟨(x4_1), (x5_1), (wrap64 (x7_1 + 1)), (by first | rfl | (simp; done) | (rw [Go.IntWalk.wrap64_in (x7_1 + 1) (by omega)]; done) | (rw [Go.IntWalk.wrap64_in (x7_1 + 1) (by omega)]; simp; done) | (simp [*]; done)), (by first | rfl | (simp; done) | (rw [Go.IntWalk.wrap64_in (x7_1 + 1) (by omega)]; done) | (rw [Go.IntWalk.wrap64_in (x7_1 + 1) (by omega)]; simp; done) | (simp [*]; done)), (by first | rfl | (simp; done) | (rw [Go.IntWalk.wrap64_in (x7_1 + 1) (by omega)]; done) | (rw [Go.IntWalk.wrap64_in (x7_1 + 1) (by omega)]; simp; done) | (simp [*]; done)), H', ⟨by have := HK1.out; have := HJ4.out; omega⟩, ⟨by (with_reducible repeat (first | apply Kd.S_alloc | apply Kd.S_drewN | apply Kd.S_drew)); exact HO_6.out⟩, ⟨by repeat (first | (with_reducible first | exact HB.out | apply below_alloc | apply pw_below_drewN | apply below_drew1) | exact HB.out)⟩⟩
                · rw [if_neg c17] at H
                  exact absurd H (by simp)
              · rw [if_neg c16] at H
                exact absurd H (by simp)
      · rw [if_neg c4] at H
        have c4b0 : decide (x7_1 < (t129.length : Int)) = false := decide_eq_false c4
        clear c4
        simp only [Option.some.injEq, Prod.mk.injEq] at H
        obtain ⟨rfl, rfl⟩ := H
        obtain ⟨Ao25, co25, eo25⟩ := Kd.S_slice HO_6.out
        subst eo25
        go_wp2
        go_ret2
        exact ⟨by first | rfl | (simp [errW_none, errW_some] <;> rfl) | (simp [*, errW_none, errW_some] <;> rfl), by repeat (first | (with_reducible first | exact HB.out | apply below_alloc | apply pw_below_drewN | apply below_drew1) | exact HB.out)⟩

/-! ### entity_Names: function 17 -/
def entity_Names.names : List ByteArray := entTab.map fun x => ⟨x.1.toArray⟩
def entity_Names.f : Option (List ByteArray) := some entity_Names.names
theorem entity_Names.ix : ∀ (m : Nat) (w : World), m < 61 → (Instr.index 59 (.agg entCells.toArray) (.int .i64 (m : Int))).run Tryd.prog w = .ok (.agg #[.string (entS m), .string (entT m)]) w
  | 0, _, _ => by kernel_rfl
  | 1, _, _ => by kernel_rfl
  | 2, _, _ => by kernel_rfl
  | 3, _, _ => by kernel_rfl
  | 4, _, _ => by kernel_rfl
  | 5, _, _ => by kernel_rfl
  | 6, _, _ => by kernel_rfl
  | 7, _, _ => by kernel_rfl
  | 8, _, _ => by kernel_rfl
  | 9, _, _ => by kernel_rfl
  | 10, _, _ => by kernel_rfl
  | 11, _, _ => by kernel_rfl
  | 12, _, _ => by kernel_rfl
  | 13, _, _ => by kernel_rfl
  | 14, _, _ => by kernel_rfl
  | 15, _, _ => by kernel_rfl
  | 16, _, _ => by kernel_rfl
  | 17, _, _ => by kernel_rfl
  | 18, _, _ => by kernel_rfl
  | 19, _, _ => by kernel_rfl
  | 20, _, _ => by kernel_rfl
  | 21, _, _ => by kernel_rfl
  | 22, _, _ => by kernel_rfl
  | 23, _, _ => by kernel_rfl
  | 24, _, _ => by kernel_rfl
  | 25, _, _ => by kernel_rfl
  | 26, _, _ => by kernel_rfl
  | 27, _, _ => by kernel_rfl
  | 28, _, _ => by kernel_rfl
  | 29, _, _ => by kernel_rfl
  | 30, _, _ => by kernel_rfl
  | 31, _, _ => by kernel_rfl
  | 32, _, _ => by kernel_rfl
  | 33, _, _ => by kernel_rfl
  | 34, _, _ => by kernel_rfl
  | 35, _, _ => by kernel_rfl
  | 36, _, _ => by kernel_rfl
  | 37, _, _ => by kernel_rfl
  | 38, _, _ => by kernel_rfl
  | 39, _, _ => by kernel_rfl
  | 40, _, _ => by kernel_rfl
  | 41, _, _ => by kernel_rfl
  | 42, _, _ => by kernel_rfl
  | 43, _, _ => by kernel_rfl
  | 44, _, _ => by kernel_rfl
  | 45, _, _ => by kernel_rfl
  | 46, _, _ => by kernel_rfl
  | 47, _, _ => by kernel_rfl
  | 48, _, _ => by kernel_rfl
  | 49, _, _ => by kernel_rfl
  | 50, _, _ => by kernel_rfl
  | 51, _, _ => by kernel_rfl
  | 52, _, _ => by kernel_rfl
  | 53, _, _ => by kernel_rfl
  | 54, _, _ => by kernel_rfl
  | 55, _, _ => by kernel_rfl
  | 56, _, _ => by kernel_rfl
  | 57, _, _ => by kernel_rfl
  | 58, _, _ => by kernel_rfl
  | 59, _, _ => by kernel_rfl
  | 60, _, _ => by kernel_rfl
  | m + 61, _, h => absurd h (by omega)
theorem entity_Names.take_succ (m : Nat) (hm : m < 61) : entity_Names.names.take (m + 1) = entity_Names.names.take m ++ [entS m] := by
  have hl : m < entity_Names.names.length := by rw [entity_Names.names, List.length_map, entLen]; exact hm
  rw [List.take_succ_eq_append_getElem hl]
  congr 2
  have e : entity_Names.names[m]? = some (entS m) := by
    unfold entity_Names.names entS
    rw [List.getElem?_map, List.getD_eq_getElem?_getD, List.getElem?_eq_getElem (by rw [entLen]; exact hm), Option.getD_some, Option.map_some]
  exact Option.some.inj ((List.getElem?_eq_getElem hl).symm.trans e)
theorem entity_Names.info : (Tryd.prog.info? 9).map (fun i => (i.zero, i.size, i.bytes)) = some (some (.string ⟨#[]⟩), Kd.string.sz, 16) := by kernel_rfl
set_option maxHeartbeats 4000000 in
set_option maxRecDepth 1000000 in
theorem entity_Names.calls (r : List ByteArray) (w : World) (hW : Wok w) (h : entity_Names.f = some r) :
    Calls Tryd.prog 17 #[] w fun e w' => ∃ v0_ : Value, e = .returned v0_ ∧ Kd.R Kd.string 9 w' w.heap.size (fun _ => True) v0_ r ∧ Below w.heap.size w w' := by
  obtain rfl := Option.some.inj h
  obtain ⟨t, fz, hg⟩ := hW
  have HG := Lib.hid hg
  clear hg h
  go_enter Tryd.func17, Tryd.ntmps17
  go_wp2_with (with_reducible refine wpList_load_row rfl 59 (.global 0) rfl 0 rfl t entCells.toArray fz (.array 61 58) HG.out Tryd.underlying59 rfl (by kernel_rfl) ?_)
  go_loopg [1, 5] 62 (fun g s1 s5 wr => ∃ i : Nat, s5 = .int .i64 (i : Int) ∧ i ≤ 61 ∧ g + i = 62 ∧ Hid (Kd.R Kd.string 9 wr w.heap.size (fun _ => True) s1 (entity_Names.names.take i)) ∧ Hid (Below w.heap.size w wr))
  case atStart => exact ⟨0, rfl, by omega, rfl, Lib.hid (Kd.R_nil _ _ _ _ _), Lib.hid (Below.refl _ _)⟩
  case round =>
    obtain ⟨i, rfl, hi, hgk, HR, HB⟩ := hrel
    by_cases hlt : i < 61
    · have ix := fun w => entity_Names.ix i w hlt
      go_wp2_with (first | ((with_reducible refine gate_builtin (b := .append) (xs := #[.tmp 8, .tmp 11]) rfl ?_); at_builtin; refine Kd.R_append Kd.string (w0 := w) w.heap.size rfl (.tmp 8) (.tmp 11) 31 9 (.string ⟨#[]⟩) 16 rfl Tryd.underlying31 entity_Names.info rfl (by decide) (by omega) u1 (entity_Names.names.take i) (entS i) [.string (entS i)] (fun _ => True) (fun _ => False) rfl (by first | (go_simp; done) | (go_simp; rfl)) rfl (fun _ hk => hk.elim) (fun _ _ => trivial) ?aO ?aB ?aS ?aL ?_; (case aO => exact Kd.R_alloc HR.out _); (case aB => exact HB.out.alloc HB.out.size _); (case aS => exact (HB.out.alloc HB.out.size _).size); (case aL => rw [List.length_take]; omega); intro v1 w1 ho hb hg hat; have HO := Lib.hid ho; have HB1 := Lib.hid hb; clear ho hb hg hat))
      go_roundg (gk - 1)
      case measure => omega
      case rel => exact ⟨i + 1, rfl, by omega, by omega, Lib.hid (by rw [entity_Names.take_succ i hlt]; exact HO.out), HB1⟩
    · obtain rfl : i = 61 := by omega
      go_wp2
      go_ret
      exact ⟨_, rfl, HR.out, HB.out⟩

/-! ### decanterref04_Less: function 18 -/
mutual
def decanterref04_Less.l0 : Nat → ByteArray → ByteArray → Int → Option (Bool)
  | 0, _, _, _ => none
  | k + 1, x0, x1, x5 => if x5 < (x0.size : Int) then (decanterref04_Less.j1 k x0 x1 x5 (decide (x5 < (x1.size : Int)))) else (decanterref04_Less.j1 k x0 x1 x5 false)
def decanterref04_Less.j1 : Nat → ByteArray → ByteArray → Int → Bool → Option (Bool)
  | 0, _, _, _, _ => none
  | k + 1, x0, x1, x5, x15 => if x15 = true then (if 0 ≤ x5 then (if x5 < (x0.size : Int) then (if x5 < (x1.size : Int) then (if (bt x0 x5) = (bt x1 x5) then (decanterref04_Less.l0 k x0 x1 (wrap64 (x5 + 1))) else (some (decide ((bt x0 x5) < (bt x1 x5))))) else (none)) else (none)) else (none)) else (some (decide ((x0.size : Int) < (x1.size : Int))))
end
def decanterref04_Less.f (k : Nat) (a0 : ByteArray) (a1 : ByteArray) : Option (Bool) := decanterref04_Less.l0 k a0 a1 0
theorem decanterref04_Less.mono_l : ∀ k, (∀ y0 y1 y2, LeO (decanterref04_Less.l0 k y0 y1 y2) (decanterref04_Less.l0 (k + 1) y0 y1 y2)) ∧ (∀ y0 y1 y2 y3, LeO (decanterref04_Less.j1 k y0 y1 y2 y3) (decanterref04_Less.j1 (k + 1) y0 y1 y2 y3))
  | 0 => ⟨fun _ _ _ r h => by simp [decanterref04_Less.l0] at h, fun _ _ _ _ r h => by simp [decanterref04_Less.j1] at h⟩
  | k + 1 => by
    obtain ⟨ih0, ih1⟩ := decanterref04_Less.mono_l k
    refine ⟨?_, ?_⟩
    · intro y0 y1 y2
      unfold decanterref04_Less.l0
      repeat' first
      | (with_reducible exact ih0 _ _ _)
      | (with_reducible exact ih1 _ _ _ _)
      | (with_reducible exact LeO.refl _)
      | (with_reducible exact LeO.none _)
      | (with_reducible refine LeO.ite ?_ ?_)
      | (with_reducible refine LeO.bind ?_ (fun _ => ?_))
      | exact ih0 _ _ _
      | exact ih1 _ _ _ _
      | exact LeO.none _
      | refine LeO.ite ?_ ?_
      | refine LeO.bind ?_ (fun _ => ?_)
    · intro y0 y1 y2 y3
      unfold decanterref04_Less.j1
      repeat' first
      | (with_reducible exact ih0 _ _ _)
      | (with_reducible exact ih1 _ _ _ _)
      | (with_reducible exact LeO.refl _)
      | (with_reducible exact LeO.none _)
      | (with_reducible refine LeO.ite ?_ ?_)
      | (with_reducible refine LeO.bind ?_ (fun _ => ?_))
      | exact ih0 _ _ _
      | exact ih1 _ _ _ _
      | exact LeO.none _
      | refine LeO.ite ?_ ?_
      | refine LeO.bind ?_ (fun _ => ?_)
theorem decanterref04_Less.mono : ∀ a0 a1 k, LeO (decanterref04_Less.f k a0 a1) (decanterref04_Less.f (k + 1) a0 a1) := by
  intro a0 a1 k
  obtain ⟨ih0, ih1⟩ := decanterref04_Less.mono_l k
  unfold decanterref04_Less.f
  repeat' first
      | (with_reducible exact ih0 _ _ _)
      | (with_reducible exact ih1 _ _ _ _)
      | (with_reducible exact LeO.refl _)
      | (with_reducible exact LeO.none _)
      | (with_reducible refine LeO.ite ?_ ?_)
      | (with_reducible refine LeO.bind ?_ (fun _ => ?_))
      | exact ih0 _ _ _
      | exact ih1 _ _ _ _
      | exact LeO.none _
      | refine LeO.ite ?_ ?_
      | refine LeO.bind ?_ (fun _ => ?_)
set_option maxHeartbeats 8000000 in
set_option maxRecDepth 100000 in
theorem decanterref04_Less.calls (k : Nat) (a0 : ByteArray) (a1 : ByteArray) (r : Bool) (w : World) (h : decanterref04_Less.f k a0 a1 = some r) :
    Calls Tryd.prog 18 #[.string a0, .string a1] w fun e w' => e = .returned (.bool r) ∧ Drawn0 w w' := by
  have H : (decanterref04_Less.l0 k a0 a1 0) = some r := h
  clear h
  have H' := Aside0.mk H
  clear H
  go_enter Tryd.func18, Tryd.ntmps18
  go_wp2
  repeat (go_quiet (fail); try go_wp2)
  go_loopg [5] k (fun kq v5 w' => ∃ (x5_1 : Int), v5 = .int .i64 x5_1 ∧ Aside0 (decanterref04_Less.l0 kq a0 a1 x5_1 = some r) ∧ Aside0 (kq ≤ k) ∧ Drawn0 w w')
  case atStart => exact ⟨(0), (by first | rfl | (simp; done) | (simp [*]; done)), H', ⟨Nat.le_refl _⟩, by repeat (first | exact Drawn0.refl _ | apply Drawn0.step)⟩
  case round =>
    clear H'
    try clear c1
    try clear p2
    obtain ⟨x5_1, rfl, HA, HK1, ⟨m1, rfl⟩⟩ := hrel
    cases gk with
    | zero => exact absurd HA.out (by simp [decanterref04_Less.l0])
    | succ k1 =>
      have H := HA.out
      clear HA
      simp only [decanterref04_Less.l0] at H
      have HC3 := Aside0.mk H
      clear H
      go_upto_region 2 with (fail)
      repeat (go_quiet (fail); go_upto_region 2 with (fail))
      go_cut [15] (fun v15 wc => ∃ (kq : Nat) (x15_2 : Bool), v15 = .bool x15_2 ∧ Aside0 (decanterref04_Less.j1 kq a0 a1 x5_1 x15_2 = some r) ∧ Aside0 (kq ≤ k1) ∧ Drawn0 w wc)
      case first =>
        have H := HC3.out
        clear HC3
        by_cases c4 : x5_1 < (a0.size : Int)
        · rw [if_pos c4] at H
          have c4b0 : decide (x5_1 < (a0.size : Int)) = true := decide_eq_true c4
          clear c4
          (first | rw [c4b0] | (simp only [i64_w, i32_w]; rw [c4b0]) | skip)
          have H' := Aside0.mk H
          clear H
          go_wp2
          repeat (go_quiet (fail); try go_wp2)
          go_meet
          case rel => exact ⟨_, (decide (x5_1 < (a1.size : Int))), (by first | rfl | (simp; done) | (simp [*]; done)), H', ⟨by have := HK1.out; first | omega | exact Nat.le_refl _⟩, by repeat (first | exact Drawn0.refl _ | apply Drawn0.step)⟩
        · rw [if_neg c4] at H
          have c4b0 : decide (x5_1 < (a0.size : Int)) = false := decide_eq_false c4
          clear c4
          (first | rw [c4b0] | (simp only [i64_w, i32_w]; rw [c4b0]) | skip)
          have H' := Aside0.mk H
          clear H
          go_wp2
          repeat (go_quiet (fail); try go_wp2)
          go_meet
          case rel => exact ⟨_, (false), (by first | rfl | (simp; done) | (simp [*]; done)), H', ⟨by have := HK1.out; first | omega | exact Nat.le_refl _⟩, by repeat (first | exact Drawn0.refl _ | apply Drawn0.step)⟩
      case rest =>
        clear HC3
        try clear c1
        try clear p2
        try clear c4
        try clear c4b0
        try clear p2
        obtain ⟨kq, x15_2, rfl, HA, HJ2, ⟨mc2, rfl⟩⟩ := hcut
        cases kq with
        | zero => exact absurd HA.out (by simp [decanterref04_Less.j1])
        | succ kj2 =>
          have H := HA.out
          clear HA
          simp only [decanterref04_Less.j1] at H
          by_cases c5 : x15_2 = true
          · subst c5
            have H1 : (if 0 ≤ x5_1 then (if x5_1 < (a0.size : Int) then (if x5_1 < (a1.size : Int) then (if (bt a0 x5_1) = (bt a1 x5_1) then (decanterref04_Less.l0 kj2 a0 a1 (wrap64 (x5_1 + 1))) else (some (decide ((bt a0 x5_1) < (bt a1 x5_1))))) else (none)) else (none)) else (none)) = some r := by rw [if_pos rfl] at H; exact H
            clear H
            have H := H1
            clear H1
            by_cases c6 : 0 ≤ x5_1
            · rw [if_pos c6] at H
              have c6b0 : decide (0 ≤ x5_1) = true := decide_eq_true c6
              clear c6
              by_cases c7 : x5_1 < (a0.size : Int)
              · rw [if_pos c7] at H
                have c7b0 : decide (x5_1 < (a0.size : Int)) = true := decide_eq_true c7
                clear c7
                by_cases c9 : x5_1 < (a1.size : Int)
                · rw [if_pos c9] at H
                  have c9b0 : decide (x5_1 < (a1.size : Int)) = true := decide_eq_true c9
                  clear c9
                  by_cases c11 : (bt a0 x5_1) = (bt a1 x5_1)
                  · rw [if_pos c11] at H
                    have c11b0 : ((bt a0 x5_1) == (bt a1 x5_1)) = true := beq_iff_eq.mpr c11
                    have c11b1 : ((bt a0 x5_1) != (bt a1 x5_1)) = false := bne_eq_false_iff_eq.mpr c11
                    clear c11
                    have H' := Aside0.mk H
                    clear H
                    have p8 : 0 ≤ (x5_1 : Int) := of_decide_eq_true (by first | (with_reducible assumption) | assumption)
                    have q8 : x5_1 < (a0.size : Int) := of_decide_eq_true (by first | (with_reducible assumption) | assumption)
                    have hx8 := bt_at a0 x5_1
                    replace p8 := eq_true p8
                    replace q8 := eq_true q8
                    have p10 : 0 ≤ (x5_1 : Int) := of_decide_eq_true (by first | (with_reducible assumption) | assumption)
                    have q10 : x5_1 < (a1.size : Int) := of_decide_eq_true (by first | (with_reducible assumption) | assumption)
                    have hx10 := bt_at a1 x5_1
                    replace p10 := eq_true p10
                    replace q10 := eq_true q10
                    go_wp2
                    repeat (go_quiet (fail); try go_wp2)
                    go_roundg kj2
                    case measure => have := HK1.out; have := HJ2.out; omega
                    case rel => exact ⟨(wrap64 (x5_1 + 1)), (by first | rfl | (simp; done) | (rw [Go.IntWalk.wrap64_in (x5_1 + 1) (by omega)]; done) | (rw [Go.IntWalk.wrap64_in (x5_1 + 1) (by omega)]; simp; done) | (simp [*]; done)), H', ⟨by have := HK1.out; have := HJ2.out; omega⟩, by repeat (first | exact Drawn0.refl _ | apply Drawn0.step)⟩
                  · rw [if_neg c11] at H
                    have c11b0 : ((bt a0 x5_1) == (bt a1 x5_1)) = false := beq_eq_false_iff_ne.mpr c11
                    have c11b1 : ((bt a0 x5_1) != (bt a1 x5_1)) = true := bne_iff_ne.mpr c11
                    obtain rfl := Option.some.inj H
                    have p8 : 0 ≤ (x5_1 : Int) := of_decide_eq_true (by first | (with_reducible assumption) | assumption)
                    have q8 : x5_1 < (a0.size : Int) := of_decide_eq_true (by first | (with_reducible assumption) | assumption)
                    have hx8 := bt_at a0 x5_1
                    replace p8 := eq_true p8
                    replace q8 := eq_true q8
                    have p10 : 0 ≤ (x5_1 : Int) := of_decide_eq_true (by first | (with_reducible assumption) | assumption)
                    have q10 : x5_1 < (a1.size : Int) := of_decide_eq_true (by first | (with_reducible assumption) | assumption)
                    have hx10 := bt_at a1 x5_1
                    replace p10 := eq_true p10
                    replace q10 := eq_true q10
                    have p12 : 0 ≤ (x5_1 : Int) := of_decide_eq_true (by first | (with_reducible assumption) | assumption)
                    have q12 : x5_1 < (a0.size : Int) := of_decide_eq_true (by first | (with_reducible assumption) | assumption)
                    have hx12 := bt_at a0 x5_1
                    replace p12 := eq_true p12
                    replace q12 := eq_true q12
                    have p13 : 0 ≤ (x5_1 : Int) := of_decide_eq_true (by first | (with_reducible assumption) | assumption)
                    have q13 : x5_1 < (a1.size : Int) := of_decide_eq_true (by first | (with_reducible assumption) | assumption)
                    have hx13 := bt_at a1 x5_1
                    replace p13 := eq_true p13
                    replace q13 := eq_true q13
                    go_wp2
                    repeat (go_quiet (fail); try go_wp2)
                    go_ret
                    exact ⟨by first | rfl | (simp; done) | (simp [*]; done), by repeat (first | exact Drawn0.refl _ | apply Drawn0.step)⟩
                · rw [if_neg c9] at H
                  exact absurd H (by simp)
              · rw [if_neg c7] at H
                exact absurd H (by simp)
            · rw [if_neg c6] at H
              exact absurd H (by simp)
          · replace c5 := Bool.eq_false_iff.mpr c5
            subst c5
            have H1 : (some (decide ((a0.size : Int) < (a1.size : Int)))) = some r := by rw [if_neg (show ¬ (false = true) by decide)] at H; exact H
            clear H
            have H := H1
            clear H1
            obtain rfl := Option.some.inj H
            go_wp2
            repeat (go_quiet (fail); try go_wp2)
            go_ret
            exact ⟨by first | rfl | (simp; done) | (simp [*]; done), by repeat (first | exact Drawn0.refl _ | apply Drawn0.step)⟩

end Go.Proofs.YtnmjocoopbfpnaaDoor.PEntityN
