-- Laid by a program of this session (tools/patch_print.py) out of the translation. Not trusted: Lean checks it.
import Derived.IntWalk
import Derived.Test.YtnmjocoopbfpnaaDoorPRefAx0
import Derived.Test.YtnmjocoopbfpnaaDoorPRefAx1
import Derived.Test.YtnmjocoopbfpnaaDoorPRefAx4
namespace Go.Proofs.YtnmjocoopbfpnaaDoor.PRefA
open Go.RowKit Go.Proofs.YtnmjocoopbfpnaaDoorW.PrintWords Go.Proofs.YtnmjocoopbfpnaaDoorW.PrintLast Go.Proofs.YtnmjocoopbfpnaaDoorW.PrintMore
attribute [local go_sem] max2_int min2_int max_two min_two max_three min_three max_four min_four   -- for this text's walks alone
set_option linter.unusedVariables false
set_option linter.unusedSimpArgs false

/-! ### decanterref04_Find: function 15 -/
mutual
def decanterref04_Find.l0 : Nat → ByteArray → Int → ByteArray → List (S30) → Int → Option (Int × ByteArray)
  | 0, _, _, _, _, _ => none
  | k + 1, x0, x4, x5, x6, x7 => if x7 < (x6.length : Int) then (if 0 ≤ x7 then (if ((rd_T30 x6 x7).f0).size + 1 ≤ 9223372036854775807 then ((decanterref04_Begins.f x0 (((rd_T30 x6 x7).f0) ++ (⟨#[59]⟩ : ByteArray))).bind fun t177 => (if t177 = true then (decanterref04_Find.j1 k x0 x4 x5 x6 x7 (decide ((wrap64 ((((rd_T30 x6 x7).f0).size : Int) + 1)) > x4))) else (decanterref04_Find.j1 k x0 x4 x5 x6 x7 false))) else (none)) else (none)) else (some (x4, x5))
def decanterref04_Find.j1 : Nat → ByteArray → Int → ByteArray → List (S30) → Int → Bool → Option (Int × ByteArray)
  | 0, _, _, _, _, _, _ => none
  | k + 1, x0, x4, x5, x6, x7, x33 => if x33 = true then (if 0 ≤ x7 then (if x7 < (x6.length : Int) then ((decanterref04_Text.f k ((rd_T30 x6 x7).f2)).bind fun t181 => (decanterref04_Find.l0 k x0 (wrap64 ((((rd_T30 x6 x7).f0).size : Int) + 1)) t181 x6 (wrap64 (x7 + 1)))) else (none)) else (none)) else (if 0 ≤ x7 then (if x7 < (x6.length : Int) then (if (rd_T30 x6 x7).f1 = true then ((decanterref04_Begins.f x0 ((rd_T30 x6 x7).f0)).bind fun t184 => (if t184 = true then (if (((rd_T30 x6 x7).f0).size : Int) > x4 then ((decanterref04_Text.f k ((rd_T30 x6 x7).f2)).bind fun t188 => (decanterref04_Find.l0 k x0 (((rd_T30 x6 x7).f0).size : Int) t188 x6 (wrap64 (x7 + 1)))) else (decanterref04_Find.l0 k x0 x4 x5 x6 (wrap64 (x7 + 1)))) else (decanterref04_Find.l0 k x0 x4 x5 x6 (wrap64 (x7 + 1))))) else (decanterref04_Find.l0 k x0 x4 x5 x6 (wrap64 (x7 + 1)))) else (none)) else (none))
end
def decanterref04_Find.f (k : Nat) (a0 : ByteArray) : Option (Int × ByteArray) := (decanterref04_Table.f).bind fun t173 => (decanterref04_Find.l0 k a0 0 (⟨#[]⟩ : ByteArray) t173 0)
theorem decanterref04_Find.mono_l : ∀ k, (∀ y0 y1 y2 y3 y4, LeO (decanterref04_Find.l0 k y0 y1 y2 y3 y4) (decanterref04_Find.l0 (k + 1) y0 y1 y2 y3 y4)) ∧ (∀ y0 y1 y2 y3 y4 y5, LeO (decanterref04_Find.j1 k y0 y1 y2 y3 y4 y5) (decanterref04_Find.j1 (k + 1) y0 y1 y2 y3 y4 y5))
  | 0 => ⟨fun _ _ _ _ _ r h => by simp [decanterref04_Find.l0] at h, fun _ _ _ _ _ _ r h => by simp [decanterref04_Find.j1] at h⟩
  | k + 1 => by
    obtain ⟨ih0, ih1⟩ := decanterref04_Find.mono_l k
    refine ⟨?_, ?_⟩
    · intro y0 y1 y2 y3 y4
      unfold decanterref04_Find.l0
      repeat' first
      | (with_reducible exact ih0 _ _ _ _ _)
      | (with_reducible exact ih1 _ _ _ _ _ _)
      | (with_reducible exact decanterref04_Text.mono _ _)
      | (with_reducible exact LeO.refl _)
      | (with_reducible exact LeO.none _)
      | (with_reducible refine LeO.ite ?_ ?_)
      | (with_reducible refine LeO.bind ?_ (fun _ => ?_))
      | exact ih0 _ _ _ _ _
      | exact ih1 _ _ _ _ _ _
      | exact decanterref04_Text.mono _ _
      | exact LeO.none _
      | refine LeO.ite ?_ ?_
      | refine LeO.bind ?_ (fun _ => ?_)
    · intro y0 y1 y2 y3 y4 y5
      unfold decanterref04_Find.j1
      repeat' first
      | (with_reducible exact ih0 _ _ _ _ _)
      | (with_reducible exact ih1 _ _ _ _ _ _)
      | (with_reducible exact decanterref04_Text.mono _ _)
      | (with_reducible exact LeO.refl _)
      | (with_reducible exact LeO.none _)
      | (with_reducible refine LeO.ite ?_ ?_)
      | (with_reducible refine LeO.bind ?_ (fun _ => ?_))
      | exact ih0 _ _ _ _ _
      | exact ih1 _ _ _ _ _ _
      | exact decanterref04_Text.mono _ _
      | exact LeO.none _
      | refine LeO.ite ?_ ?_
      | refine LeO.bind ?_ (fun _ => ?_)
theorem decanterref04_Find.mono : ∀ a0 k, LeO (decanterref04_Find.f k a0) (decanterref04_Find.f (k + 1) a0) := by
  intro a0 k
  obtain ⟨ih0, ih1⟩ := decanterref04_Find.mono_l k
  unfold decanterref04_Find.f
  repeat' first
      | (with_reducible exact ih0 _ _ _ _ _)
      | (with_reducible exact ih1 _ _ _ _ _ _)
      | (with_reducible exact decanterref04_Text.mono _ _)
      | (with_reducible exact LeO.refl _)
      | (with_reducible exact LeO.none _)
      | (with_reducible refine LeO.ite ?_ ?_)
      | (with_reducible refine LeO.bind ?_ (fun _ => ?_))
      | exact ih0 _ _ _ _ _
      | exact ih1 _ _ _ _ _ _
      | exact decanterref04_Text.mono _ _
      | exact LeO.none _
      | refine LeO.ite ?_ ?_
      | refine LeO.bind ?_ (fun _ => ?_)
set_option maxHeartbeats 8000000 in
set_option maxRecDepth 100000 in
theorem decanterref04_Find.calls (k : Nat) (a0 : ByteArray) (r1 : Int) (r2 : ByteArray) (w : World) (hW : Wok w) (h : decanterref04_Find.f k a0 = some (r1, r2)) :
    Calls Tryd.prog 15 #[.string a0] w fun e w' => e = .returned (.tuple #[.int .i64 r1, .string r2]) ∧ Below w.heap.size w w' := by
  have HB := Aside0.mk (Below.refl w.heap.size w)
  have H : ((decanterref04_Table.f).bind fun t173 => (decanterref04_Find.l0 k a0 0 (⟨#[]⟩ : ByteArray) t173 0)) = some (r1, r2) := h
  clear h
  replace H := Option.bind_eq_some_iff.mp H
  obtain ⟨t173, A20, H⟩ := H
  replace H : (decanterref04_Find.l0 k a0 0 (⟨#[]⟩ : ByteArray) t173 0) = some (r1, r2) := H
  have A2 := Aside0.mk A20
  clear A20
  have H' := Aside0.mk H
  clear H
  go_enter Tryd.func15, Tryd.ntmps15
  go_wp2_with (first | ((with_reducible refine gate_callee (f := 16) rfl ?_); refine goesL_ (some 8) rfl rfl Tryd.func16 (by kernel_rfl) rfl #[] rfl (by (try simp only [List.map_toArray, List.map_cons, List.map_nil]); first | done | rfl | (simp only [List.length_drop, List.length_take]; rfl)) ?_; (with_reducible refine (decanterref04_Table.calls  t173 _ (Wok_below hW (by repeat (first | (with_reducible first | exact HB.out | apply below_alloc | apply pw_below_drewN | apply below_drew1) | exact HB.out))) A2.out).mono ?_); rintro e w3 ⟨v174, rfl, ho0, hb⟩; refine ⟨_, rfl, ?_⟩; have n0_ := Aside0.mk (Kd.S_lower ho0 (below_size (by repeat (first | (with_reducible first | exact HB.out | apply below_alloc | apply pw_below_drewN | apply below_drew1) | exact HB.out)))); have n1_ := Aside0.mk (below_step (by repeat (first | (with_reducible first | exact HB.out | apply below_alloc | apply pw_below_drewN | apply below_drew1) | exact HB.out)) hb); clear HB; have HO175 := n0_; have HB := n1_; clear n0_ n1_; (try clear hb); (try clear hb2); (try clear hk); (try clear hi); (try clear ho0)))
  go_loopg [4, 5, 7] k (fun kq v4 v5 v7 w' => ∃ (x4_1 : Int) (x5_1 : ByteArray) (x7_1 : Int), v4 = .int .i64 x4_1 ∧ v5 = .string x5_1 ∧ v7 = .int .i64 x7_1 ∧ Aside0 (decanterref04_Find.l0 kq a0 x4_1 x5_1 t173 x7_1 = some (r1, r2)) ∧ Aside0 (kq ≤ k) ∧ Aside0 (Kd.S k30 30 w' w.heap.size (fun _ => True) v174 t173) ∧ Aside0 (Below w.heap.size w w'))
  case atStart => exact ⟨(0), ((⟨#[]⟩ : ByteArray)), (0), (by first | rfl | (simp; done) | (simp [*]; done)), (by first | rfl | (simp; done) | (simp [*]; done)), (by first | rfl | (simp; done) | (simp [*]; done)), H', ⟨Nat.le_refl _⟩, ⟨by (with_reducible repeat (first | apply Kd.S_alloc | apply Kd.S_drewN | apply Kd.S_drew)); exact HO175.out⟩, ⟨by repeat (first | (with_reducible first | exact HB.out | apply below_alloc | apply pw_below_drewN | apply below_drew1) | exact HB.out)⟩⟩
  case round =>
    clear H'
    try clear c1
    try clear p2
    obtain ⟨x4_1, x5_1, x7_1, rfl, rfl, rfl, HA, HK1, HO_6, HB⟩ := hrel
    cases gk with
    | zero => exact absurd HA.out (by simp [decanterref04_Find.l0])
    | succ k1 =>
      have H := HA.out
      clear HA
      simp only [decanterref04_Find.l0] at H
      by_cases c4 : x7_1 < (t173.length : Int)
      · rw [if_pos c4] at H
        have c4b0 : decide (x7_1 < (t173.length : Int)) = true := decide_eq_true c4
        clear c4
        have HC5 := Aside0.mk H
        clear H
        obtain ⟨Ao6, co6, eo6⟩ := Kd.S_slice HO_6.out
        subst eo6
        go_upto_region 6 with (fail)
        go_cut [33] (fun v33 wc => ∃ (kq : Nat) (x33_4 : Bool), v33 = .bool x33_4 ∧ Aside0 (decanterref04_Find.j1 kq a0 x4_1 x5_1 t173 x7_1 x33_4 = some (r1, r2)) ∧ Aside0 (kq ≤ k1) ∧ Aside0 (Kd.S k30 30 wc w.heap.size (fun _ => True) (.slice Ao6 t173.length co6) t173) ∧ Aside0 (Below w.heap.size w wc))
        case first =>
          have H := HC5.out
          clear HC5
          by_cases c7 : 0 ≤ x7_1
          · rw [if_pos c7] at H
            have c7b0 : decide (0 ≤ x7_1) = true := decide_eq_true c7
            clear c7
            (first | rw [c7b0] | (simp only [i64_w, i32_w]; rw [c7b0]) | skip)
            by_cases c8 : ((rd_T30 t173 x7_1).f0).size + 1 ≤ 9223372036854775807
            · rw [if_pos c8] at H
              have c8b0 := eq_true c8
              have c8b1 : decide (((rd_T30 t173 x7_1).f0).size + 1 ≤ 9223372036854775807) = true := decide_eq_true c8
              try have c8b2 : (9223372036854775807 < ((rd_T30 t173 x7_1).f0).size + 1) = False := eq_false (Nat.not_lt.2 c8)
              replace H := Option.bind_eq_some_iff.mp H
              obtain ⟨t177, A90, H⟩ := H
              replace H : (if t177 = true then (decanterref04_Find.j1 k1 a0 x4_1 x5_1 t173 x7_1 (decide ((wrap64 ((((rd_T30 t173 x7_1).f0).size : Int) + 1)) > x4_1))) else (decanterref04_Find.j1 k1 a0 x4_1 x5_1 t173 x7_1 false)) = some (r1, r2) := H
              have A9 := Aside0.mk A90
              clear A90
              by_cases c10 : t177 = true
              · subst c10
                have H1 : (decanterref04_Find.j1 k1 a0 x4_1 x5_1 t173 x7_1 (decide ((wrap64 ((((rd_T30 t173 x7_1).f0).size : Int) + 1)) > x4_1))) = some (r1, r2) := by rw [if_pos rfl] at H; exact H
                clear H
                have H := H1
                clear H1
                have H' := Aside0.mk H
                clear H
                have p176 : 0 ≤ (x7_1 : Int) := of_decide_eq_true (by first | (with_reducible assumption) | assumption)
                have q176 : x7_1 < (t173.length : Int) := of_decide_eq_true (by first | (with_reducible assumption) | assumption)
                obtain ⟨ad176, A176_2, c176_2, e176, hx176_0, hx176_1, hx176_2, hl176_2, hi176_2⟩ := at_T30 (Kd.S_reads' HO_6.out).2.2 x7_1 p176 q176
                cases e176
                obtain ⟨ce176, hce176, hMe176, hcc176⟩ := Kd.S_get HO_6.out z30 x7_1 p176 (by first | exact q176 | exact of_decide_eq_true (by first | (with_reducible assumption) | assumption) | (have e_ := (Kd.S_reads' HO_6.out).1; omega))
                obtain ⟨ve176_2, rfl, ge176_2⟩ := k30_openM hMe176
                have hv176_2 := hcc176 2 _ rfl
                rw [add_field _ _ 2 (by omega)] at hv176_2
                replace hv176_2 := Option.some.inj (hv176_2.symm.trans hx176_2)
                rw [hv176_2] at ge176_2
                have HL176_2 := Aside0.mk (show Kd.R (Kd.int .i64) 3 _ _ _ _ ((rd_T30 t173 x7_1).f2) from ge176_2)
                clear hv176_2 ge176_2
                clear hcc176 hce176
                have HR176_2 := Aside0.mk hi176_2
                have HC176_2 := Aside0.mk hl176_2
                clear hi176_2 hl176_2
                replace p176 := eq_true p176
                replace q176 := eq_true q176
                go_wp2_with (first | ((with_reducible refine gate_callee (f := 28) rfl ?_); refine goesL_ (some 22) rfl rfl Tryd.func28 (by kernel_rfl) rfl #[.string a0, .string (((rd_T30 t173 x7_1).f0) ++ (⟨#[59]⟩ : ByteArray))] rfl (by (try simp only [List.map_toArray, List.map_cons, List.map_nil]); first | done | rfl | (simp only [List.length_drop, List.length_take]; rfl)) ?_; (with_reducible refine (decanterref04_Begins.calls a0 (((rd_T30 t173 x7_1).f0) ++ (⟨#[59]⟩ : ByteArray)) true _ A9.out).mono ?_); rintro e w' ⟨rfl, ⟨nd, rfl⟩⟩; refine ⟨_, rfl, ?_⟩; have p178 : 0 ≤ (x7_1 : Int) := of_decide_eq_true (by first | (with_reducible assumption) | assumption); have q178 : x7_1 < (t173.length : Int) := of_decide_eq_true (by first | (with_reducible assumption) | assumption); obtain ⟨ad178, A178_2, c178_2, e178, hx178_0, hx178_1, hx178_2, hl178_2, hi178_2⟩ := at_T30 (Kd.S_reads' HO_6.out).2.2 x7_1 p178 q178; obtain rfl : ad176 = ad178 := (by injection e178); obtain ⟨ce178, hce178, hMe178, hcc178⟩ := Kd.S_get HO_6.out z30 x7_1 p178 (by first | exact q178 | exact of_decide_eq_true (by first | (with_reducible assumption) | assumption) | (have e_ := (Kd.S_reads' HO_6.out).1; omega)); obtain ⟨ve178_2, rfl, ge178_2⟩ := k30_openM hMe178; have hv178_2 := hcc178 2 _ rfl; rw [add_field _ _ 2 (by omega)] at hv178_2; replace hv178_2 := Option.some.inj (hv178_2.symm.trans hx178_2); rw [hv178_2] at ge178_2; have HL178_2 := Aside0.mk (show Kd.R (Kd.int .i64) 3 _ _ _ _ ((rd_T30 t173 x7_1).f2) from ge178_2); clear hv178_2 ge178_2; clear hcc178 hce178; have HR178_2 := Aside0.mk hi178_2; have HC178_2 := Aside0.mk hl178_2; clear hi178_2 hl178_2; replace p178 := eq_true p178; replace q178 := eq_true q178; have ea_ := Option.some.inj (hx176_2.symm.trans hx178_2); injection ea_ with ea_ en_ ec_; subst ea_; subst ec_; clear en_))
                go_meet
                case rel => exact ⟨_, (decide ((wrap64 ((((rd_T30 t173 x7_1).f0).size : Int) + 1)) > x4_1)), (by first | rfl | (simp; done) | (rw [Go.IntWalk.wrap64_in ((((rd_T30 t173 x7_1).f0).size : Int) + 1) (by omega)]; done) | (rw [Go.IntWalk.wrap64_in ((((rd_T30 t173 x7_1).f0).size : Int) + 1) (by omega)]; simp; done) | (simp [*]; done)), H', ⟨by have := HK1.out; first | omega | exact Nat.le_refl _⟩, ⟨by (with_reducible repeat (first | apply Kd.S_alloc | apply Kd.S_drewN | apply Kd.S_drew)); exact HO_6.out⟩, ⟨by repeat (first | (with_reducible first | exact HB.out | apply below_alloc | apply pw_below_drewN | apply below_drew1) | exact HB.out)⟩⟩
              · replace c10 := Bool.eq_false_iff.mpr c10
                subst c10
                have H1 : (decanterref04_Find.j1 k1 a0 x4_1 x5_1 t173 x7_1 false) = some (r1, r2) := by rw [if_neg (show ¬ (false = true) by decide)] at H; exact H
                clear H
                have H := H1
                clear H1
                have H' := Aside0.mk H
                clear H
                have p176 : 0 ≤ (x7_1 : Int) := of_decide_eq_true (by first | (with_reducible assumption) | assumption)
                have q176 : x7_1 < (t173.length : Int) := of_decide_eq_true (by first | (with_reducible assumption) | assumption)
                obtain ⟨ad176, A176_2, c176_2, e176, hx176_0, hx176_1, hx176_2, hl176_2, hi176_2⟩ := at_T30 (Kd.S_reads' HO_6.out).2.2 x7_1 p176 q176
                cases e176
                obtain ⟨ce176, hce176, hMe176, hcc176⟩ := Kd.S_get HO_6.out z30 x7_1 p176 (by first | exact q176 | exact of_decide_eq_true (by first | (with_reducible assumption) | assumption) | (have e_ := (Kd.S_reads' HO_6.out).1; omega))
                obtain ⟨ve176_2, rfl, ge176_2⟩ := k30_openM hMe176
                have hv176_2 := hcc176 2 _ rfl
                rw [add_field _ _ 2 (by omega)] at hv176_2
                replace hv176_2 := Option.some.inj (hv176_2.symm.trans hx176_2)
                rw [hv176_2] at ge176_2
                have HL176_2 := Aside0.mk (show Kd.R (Kd.int .i64) 3 _ _ _ _ ((rd_T30 t173 x7_1).f2) from ge176_2)
                clear hv176_2 ge176_2
                clear hcc176 hce176
                have HR176_2 := Aside0.mk hi176_2
                have HC176_2 := Aside0.mk hl176_2
                clear hi176_2 hl176_2
                replace p176 := eq_true p176
                replace q176 := eq_true q176
                go_wp2_with (first | ((with_reducible refine gate_callee (f := 28) rfl ?_); refine goesL_ (some 22) rfl rfl Tryd.func28 (by kernel_rfl) rfl #[.string a0, .string (((rd_T30 t173 x7_1).f0) ++ (⟨#[59]⟩ : ByteArray))] rfl (by (try simp only [List.map_toArray, List.map_cons, List.map_nil]); first | done | rfl | (simp only [List.length_drop, List.length_take]; rfl)) ?_; (with_reducible refine (decanterref04_Begins.calls a0 (((rd_T30 t173 x7_1).f0) ++ (⟨#[59]⟩ : ByteArray)) false _ A9.out).mono ?_); rintro e w' ⟨rfl, ⟨nd, rfl⟩⟩; refine ⟨_, rfl, ?_⟩))
                go_meet
                case rel => exact ⟨_, (false), (by first | rfl | (simp; done) | (simp [*]; done)), H', ⟨by have := HK1.out; first | omega | exact Nat.le_refl _⟩, ⟨by (with_reducible repeat (first | apply Kd.S_alloc | apply Kd.S_drewN | apply Kd.S_drew)); exact HO_6.out⟩, ⟨by repeat (first | (with_reducible first | exact HB.out | apply below_alloc | apply pw_below_drewN | apply below_drew1) | exact HB.out)⟩⟩
            · rw [if_neg c8] at H
              exact absurd H (by simp)
          · rw [if_neg c7] at H
            exact absurd H (by simp)
        case rest =>
          clear HC5
          try clear c1
          try clear p1
          try clear q1
          try clear hx1
          try clear c2
          try clear p2
          try clear c4
          try clear c4b0
          try clear p6
          try clear c7
          try clear c7b0
          try clear c8
          try clear c8b0
          try clear c8b1
          try clear c8b2
          try clear c10
          try clear hx176_0
          try clear hx176_1
          try clear hx176_2
          try clear hx178_0
          try clear hx178_1
          try clear hx178_2
          try clear p176
          try clear p178
          try clear p2
          try clear q176
          try clear q178
          obtain ⟨kq, x33_4, rfl, HA, HJ4, HO_6, HB⟩ := hcut
          cases kq with
          | zero => exact absurd HA.out (by simp [decanterref04_Find.j1])
          | succ kj4 =>
            have H := HA.out
            clear HA
            simp only [decanterref04_Find.j1] at H
            by_cases c11 : x33_4 = true
            · subst c11
              have H1 : (if 0 ≤ x7_1 then (if x7_1 < (t173.length : Int) then ((decanterref04_Text.f kj4 ((rd_T30 t173 x7_1).f2)).bind fun t181 => (decanterref04_Find.l0 kj4 a0 (wrap64 ((((rd_T30 t173 x7_1).f0).size : Int) + 1)) t181 t173 (wrap64 (x7_1 + 1)))) else (none)) else (none)) = some (r1, r2) := by rw [if_pos rfl] at H; exact H
              clear H
              have H := H1
              clear H1
              by_cases c12 : 0 ≤ x7_1
              · rw [if_pos c12] at H
                have c12b0 : decide (0 ≤ x7_1) = true := decide_eq_true c12
                clear c12
                by_cases c13 : x7_1 < (t173.length : Int)
                · rw [if_pos c13] at H
                  have c13b0 : decide (x7_1 < (t173.length : Int)) = true := decide_eq_true c13
                  clear c13
                  replace H := Option.bind_eq_some_iff.mp H
                  obtain ⟨t181, A140, H⟩ := H
                  replace H : (decanterref04_Find.l0 kj4 a0 (wrap64 ((((rd_T30 t173 x7_1).f0).size : Int) + 1)) t181 t173 (wrap64 (x7_1 + 1))) = some (r1, r2) := H
                  have A14 := Aside0.mk A140
                  clear A140
                  have H' := Aside0.mk H
                  clear H
                  have p179 : 0 ≤ (x7_1 : Int) := of_decide_eq_true (by first | (with_reducible assumption) | assumption)
                  have q179 : x7_1 < (t173.length : Int) := of_decide_eq_true (by first | (with_reducible assumption) | assumption)
                  obtain ⟨ad179, A179_2, c179_2, e179, hx179_0, hx179_1, hx179_2, hl179_2, hi179_2⟩ := at_T30 (Kd.S_reads' HO_6.out).2.2 x7_1 p179 q179
                  cases e179
                  obtain ⟨ce179, hce179, hMe179, hcc179⟩ := Kd.S_get HO_6.out z30 x7_1 p179 (by first | exact q179 | exact of_decide_eq_true (by first | (with_reducible assumption) | assumption) | (have e_ := (Kd.S_reads' HO_6.out).1; omega))
                  obtain ⟨ve179_2, rfl, ge179_2⟩ := k30_openM hMe179
                  have hv179_2 := hcc179 2 _ rfl
                  rw [add_field _ _ 2 (by omega)] at hv179_2
                  replace hv179_2 := Option.some.inj (hv179_2.symm.trans hx179_2)
                  rw [hv179_2] at ge179_2
                  have HL179_2 := Aside0.mk (show Kd.R (Kd.int .i64) 3 _ _ _ _ ((rd_T30 t173 x7_1).f2) from ge179_2)
                  clear hv179_2 ge179_2
                  clear hcc179 hce179
                  have HR179_2 := Aside0.mk hi179_2
                  have HC179_2 := Aside0.mk hl179_2
                  clear hi179_2 hl179_2
                  replace p179 := eq_true p179
                  replace q179 := eq_true q179
                  have p180 : 0 ≤ (x7_1 : Int) := of_decide_eq_true (by first | (with_reducible assumption) | assumption)
                  have q180 : x7_1 < (t173.length : Int) := of_decide_eq_true (by first | (with_reducible assumption) | assumption)
                  obtain ⟨ad180, A180_2, c180_2, e180, hx180_0, hx180_1, hx180_2, hl180_2, hi180_2⟩ := at_T30 (Kd.S_reads' HO_6.out).2.2 x7_1 p180 q180
                  obtain rfl : ad179 = ad180 := (by injection e180)
                  obtain ⟨ce180, hce180, hMe180, hcc180⟩ := Kd.S_get HO_6.out z30 x7_1 p180 (by first | exact q180 | exact of_decide_eq_true (by first | (with_reducible assumption) | assumption) | (have e_ := (Kd.S_reads' HO_6.out).1; omega))
                  obtain ⟨ve180_2, rfl, ge180_2⟩ := k30_openM hMe180
                  have hv180_2 := hcc180 2 _ rfl
                  rw [add_field _ _ 2 (by omega)] at hv180_2
                  replace hv180_2 := Option.some.inj (hv180_2.symm.trans hx180_2)
                  rw [hv180_2] at ge180_2
                  have HL180_2 := Aside0.mk (show Kd.R (Kd.int .i64) 3 _ _ _ _ ((rd_T30 t173 x7_1).f2) from ge180_2)
                  clear hv180_2 ge180_2
                  clear hcc180 hce180
                  have HR180_2 := Aside0.mk hi180_2
                  have HC180_2 := Aside0.mk hl180_2
                  clear hi180_2 hl180_2
                  replace p180 := eq_true p180
                  replace q180 := eq_true q180
                  have ea_ := Option.some.inj (hx179_2.symm.trans hx180_2)
                  injection ea_ with ea_ en_ ec_
                  subst ea_
                  subst ec_
                  clear en_
                  go_wp2_with (first | ((with_reducible refine gate_callee (f := 29) rfl ?_); refine goesL_ (some 46) rfl rfl Tryd.func29 (by kernel_rfl) rfl #[.slice A179_2 ((rd_T30 t173 x7_1).f2).length c179_2] rfl (by (try simp only [List.map_toArray, List.map_cons, List.map_nil]); first | done | rfl | (simp only [List.length_drop, List.length_take]; rfl)) ?_; (with_reducible refine (decanterref04_Text.calls kj4 _ _ ((rd_T30 t173 x7_1).f2) t181 _ ?side1 ?side2 A14.out).mono ?_); (case side1 => repeat (first | exact (by repeat (first | (with_reducible exact HR180_2.out) | (with_reducible refine Kd.C_alloc ?_ _) | (with_reducible refine Kd.C_drewN ?_ _) | (with_reducible refine Kd.C_drew ?_) | exact HR180_2.out)) | (with_reducible refine Kd.C_alloc ?_ _) | (with_reducible refine Kd.C_drewN ?_ _) | (with_reducible refine Kd.C_drew ?_))); (case side2 => exact HC180_2.out); rintro e w15 ⟨rfl, hb⟩; refine ⟨_, rfl, ?_⟩; have n0_ := Aside0.mk (Kd.S_below (by (with_reducible repeat (first | apply Kd.S_alloc | apply Kd.S_drewN | apply Kd.S_drew)); exact HO_6.out) hb); have n1_ := Aside0.mk (Kd.R_below (by (with_reducible repeat (first | apply Kd.R_alloc | apply Kd.R_drewN | apply Kd.R_drew)); exact HL179_2.out) hb); have n2_ := Aside0.mk (Kd.R_below (by (with_reducible repeat (first | apply Kd.R_alloc | apply Kd.R_drewN | apply Kd.R_drew)); exact HL180_2.out) hb); have n3_ := Aside0.mk (Kd.C_below (by repeat (first | (with_reducible exact HR179_2.out) | (with_reducible refine Kd.C_alloc ?_ _) | (with_reducible refine Kd.C_drewN ?_ _) | (with_reducible refine Kd.C_drew ?_) | exact HR179_2.out)) hb); have n4_ := Aside0.mk (Kd.C_below (by repeat (first | (with_reducible exact HR180_2.out) | (with_reducible refine Kd.C_alloc ?_ _) | (with_reducible refine Kd.C_drewN ?_ _) | (with_reducible refine Kd.C_drew ?_) | exact HR180_2.out)) hb); have n5_ := Aside0.mk (below_step (by repeat (first | (with_reducible first | exact HB.out | apply below_alloc | apply pw_below_drewN | apply below_drew1) | exact HB.out)) hb); clear HO_6; clear HL179_2; clear HL180_2; clear HR179_2; clear HR180_2; clear HB; have HO_6 := n0_; have HL179_2 := n1_; have HL180_2 := n2_; have HR179_2 := n3_; have HR180_2 := n4_; have HB := n5_; clear n0_ n1_ n2_ n3_ n4_ n5_; (try clear hb); (try clear hb2); (try clear hk); (try clear hi)))
                  go_roundg kj4
                  case measure => have := HK1.out; have := HJ4.out; omega
                  case rel => exact ⟨(wrap64 ((((rd_T30 t173 x7_1).f0).size : Int) + 1)), (t181), (wrap64 (x7_1 + 1)), (by first | rfl | (simp; done) | (rw [Go.IntWalk.wrap64_in ((((rd_T30 t173 x7_1).f0).size : Int) + 1) (by omega)]; done) | (rw [Go.IntWalk.wrap64_in ((((rd_T30 t173 x7_1).f0).size : Int) + 1) (by omega)]; simp; done) | (simp [*]; done)), (by first | rfl | (simp; done) | (rw [Go.IntWalk.wrap64_in ((((rd_T30 t173 x7_1).f0).size : Int) + 1) (by omega)]; done) | (rw [Go.IntWalk.wrap64_in ((((rd_T30 t173 x7_1).f0).size : Int) + 1) (by omega)]; simp; done) | (simp [*]; done)), (by first | rfl | (simp; done) | (rw [Go.IntWalk.wrap64_in ((((rd_T30 t173 x7_1).f0).size : Int) + 1) (by omega)]; done) | (rw [Go.IntWalk.wrap64_in ((((rd_T30 t173 x7_1).f0).size : Int) + 1) (by omega)]; simp; done) | (simp [*]; done)), H', ⟨by have := HK1.out; have := HJ4.out; omega⟩, ⟨by (with_reducible repeat (first | apply Kd.S_alloc | apply Kd.S_drewN | apply Kd.S_drew)); exact HO_6.out⟩, ⟨by repeat (first | (with_reducible first | exact HB.out | apply below_alloc | apply pw_below_drewN | apply below_drew1) | exact HB.out)⟩⟩
                · rw [if_neg c13] at H
                  exact absurd H (by simp)
              · rw [if_neg c12] at H
                exact absurd H (by simp)
            · replace c11 := Bool.eq_false_iff.mpr c11
              subst c11
              have H1 : (if 0 ≤ x7_1 then (if x7_1 < (t173.length : Int) then (if (rd_T30 t173 x7_1).f1 = true then ((decanterref04_Begins.f a0 ((rd_T30 t173 x7_1).f0)).bind fun t184 => (if t184 = true then (if (((rd_T30 t173 x7_1).f0).size : Int) > x4_1 then ((decanterref04_Text.f kj4 ((rd_T30 t173 x7_1).f2)).bind fun t188 => (decanterref04_Find.l0 kj4 a0 (((rd_T30 t173 x7_1).f0).size : Int) t188 t173 (wrap64 (x7_1 + 1)))) else (decanterref04_Find.l0 kj4 a0 x4_1 x5_1 t173 (wrap64 (x7_1 + 1)))) else (decanterref04_Find.l0 kj4 a0 x4_1 x5_1 t173 (wrap64 (x7_1 + 1))))) else (decanterref04_Find.l0 kj4 a0 x4_1 x5_1 t173 (wrap64 (x7_1 + 1)))) else (none)) else (none)) = some (r1, r2) := by rw [if_neg (show ¬ (false = true) by decide)] at H; exact H
              clear H
              have H := H1
              clear H1
              by_cases c16 : 0 ≤ x7_1
              · rw [if_pos c16] at H
                have c16b0 : decide (0 ≤ x7_1) = true := decide_eq_true c16
                clear c16
                by_cases c17 : x7_1 < (t173.length : Int)
                · rw [if_pos c17] at H
                  have c17b0 : decide (x7_1 < (t173.length : Int)) = true := decide_eq_true c17
                  clear c17
                  obtain ⟨bq18, hbq18⟩ : ∃ b_ : Bool, b_ = ((rd_T30 t173 x7_1).f1) := ⟨_, rfl⟩
                  replace H : (if bq18 = true then ((decanterref04_Begins.f a0 ((rd_T30 t173 x7_1).f0)).bind fun t184 => (if t184 = true then (if (((rd_T30 t173 x7_1).f0).size : Int) > x4_1 then ((decanterref04_Text.f kj4 ((rd_T30 t173 x7_1).f2)).bind fun t188 => (decanterref04_Find.l0 kj4 a0 (((rd_T30 t173 x7_1).f0).size : Int) t188 t173 (wrap64 (x7_1 + 1)))) else (decanterref04_Find.l0 kj4 a0 x4_1 x5_1 t173 (wrap64 (x7_1 + 1)))) else (decanterref04_Find.l0 kj4 a0 x4_1 x5_1 t173 (wrap64 (x7_1 + 1))))) else (decanterref04_Find.l0 kj4 a0 x4_1 x5_1 t173 (wrap64 (x7_1 + 1)))) = some (r1, r2) := by rw [← hbq18] at H; exact H
                  have Nbq18 := Aside0.mk hbq18
                  clear hbq18
                  by_cases c19 : bq18 = true
                  · subst c19
                    have H1 : ((decanterref04_Begins.f a0 ((rd_T30 t173 x7_1).f0)).bind fun t184 => (if t184 = true then (if (((rd_T30 t173 x7_1).f0).size : Int) > x4_1 then ((decanterref04_Text.f kj4 ((rd_T30 t173 x7_1).f2)).bind fun t188 => (decanterref04_Find.l0 kj4 a0 (((rd_T30 t173 x7_1).f0).size : Int) t188 t173 (wrap64 (x7_1 + 1)))) else (decanterref04_Find.l0 kj4 a0 x4_1 x5_1 t173 (wrap64 (x7_1 + 1)))) else (decanterref04_Find.l0 kj4 a0 x4_1 x5_1 t173 (wrap64 (x7_1 + 1))))) = some (r1, r2) := by rw [if_pos rfl] at H; exact H
                    clear H
                    have H := H1
                    clear H1
                    replace H := Option.bind_eq_some_iff.mp H
                    obtain ⟨t184, A200, H⟩ := H
                    replace H : (if t184 = true then (if (((rd_T30 t173 x7_1).f0).size : Int) > x4_1 then ((decanterref04_Text.f kj4 ((rd_T30 t173 x7_1).f2)).bind fun t188 => (decanterref04_Find.l0 kj4 a0 (((rd_T30 t173 x7_1).f0).size : Int) t188 t173 (wrap64 (x7_1 + 1)))) else (decanterref04_Find.l0 kj4 a0 x4_1 x5_1 t173 (wrap64 (x7_1 + 1)))) else (decanterref04_Find.l0 kj4 a0 x4_1 x5_1 t173 (wrap64 (x7_1 + 1)))) = some (r1, r2) := H
                    have A20 := Aside0.mk A200
                    clear A200
                    by_cases c21 : t184 = true
                    · subst c21
                      have H1 : (if (((rd_T30 t173 x7_1).f0).size : Int) > x4_1 then ((decanterref04_Text.f kj4 ((rd_T30 t173 x7_1).f2)).bind fun t188 => (decanterref04_Find.l0 kj4 a0 (((rd_T30 t173 x7_1).f0).size : Int) t188 t173 (wrap64 (x7_1 + 1)))) else (decanterref04_Find.l0 kj4 a0 x4_1 x5_1 t173 (wrap64 (x7_1 + 1)))) = some (r1, r2) := by rw [if_pos rfl] at H; exact H
                      clear H
                      have H := H1
                      clear H1
                      by_cases c22 : (((rd_T30 t173 x7_1).f0).size : Int) > x4_1
                      · rw [if_pos c22] at H
                        have c22b0 : decide (x4_1 < (((rd_T30 t173 x7_1).f0).size : Int)) = true := decide_eq_true c22
                        clear c22
                        replace H := Option.bind_eq_some_iff.mp H
                        obtain ⟨t188, A230, H⟩ := H
                        replace H : (decanterref04_Find.l0 kj4 a0 (((rd_T30 t173 x7_1).f0).size : Int) t188 t173 (wrap64 (x7_1 + 1))) = some (r1, r2) := H
                        have A23 := Aside0.mk A230
                        clear A230
                        have H' := Aside0.mk H
                        clear H
                        have p182 : 0 ≤ (x7_1 : Int) := of_decide_eq_true (by first | (with_reducible assumption) | assumption)
                        have q182 : x7_1 < (t173.length : Int) := of_decide_eq_true (by first | (with_reducible assumption) | assumption)
                        obtain ⟨ad182, A182_2, c182_2, e182, hx182_0, hx182_1, hx182_2, hl182_2, hi182_2⟩ := at_T30 (Kd.S_reads' HO_6.out).2.2 x7_1 p182 q182
                        (try rw [← Nbq18.out] at hx182_1)
                        cases e182
                        obtain ⟨ce182, hce182, hMe182, hcc182⟩ := Kd.S_get HO_6.out z30 x7_1 p182 (by first | exact q182 | exact of_decide_eq_true (by first | (with_reducible assumption) | assumption) | (have e_ := (Kd.S_reads' HO_6.out).1; omega))
                        obtain ⟨ve182_2, rfl, ge182_2⟩ := k30_openM hMe182
                        have hv182_2 := hcc182 2 _ rfl
                        rw [add_field _ _ 2 (by omega)] at hv182_2
                        replace hv182_2 := Option.some.inj (hv182_2.symm.trans hx182_2)
                        rw [hv182_2] at ge182_2
                        have HL182_2 := Aside0.mk (show Kd.R (Kd.int .i64) 3 _ _ _ _ ((rd_T30 t173 x7_1).f2) from ge182_2)
                        clear hv182_2 ge182_2
                        clear hcc182 hce182
                        have HR182_2 := Aside0.mk hi182_2
                        have HC182_2 := Aside0.mk hl182_2
                        clear hi182_2 hl182_2
                        replace p182 := eq_true p182
                        replace q182 := eq_true q182
                        have p183 : 0 ≤ (x7_1 : Int) := of_decide_eq_true (by first | (with_reducible assumption) | assumption)
                        have q183 : x7_1 < (t173.length : Int) := of_decide_eq_true (by first | (with_reducible assumption) | assumption)
                        obtain ⟨ad183, A183_2, c183_2, e183, hx183_0, hx183_1, hx183_2, hl183_2, hi183_2⟩ := at_T30 (Kd.S_reads' HO_6.out).2.2 x7_1 p183 q183
                        (try rw [← Nbq18.out] at hx183_1)
                        obtain rfl : ad182 = ad183 := (by injection e183)
                        obtain ⟨ce183, hce183, hMe183, hcc183⟩ := Kd.S_get HO_6.out z30 x7_1 p183 (by first | exact q183 | exact of_decide_eq_true (by first | (with_reducible assumption) | assumption) | (have e_ := (Kd.S_reads' HO_6.out).1; omega))
                        obtain ⟨ve183_2, rfl, ge183_2⟩ := k30_openM hMe183
                        have hv183_2 := hcc183 2 _ rfl
                        rw [add_field _ _ 2 (by omega)] at hv183_2
                        replace hv183_2 := Option.some.inj (hv183_2.symm.trans hx183_2)
                        rw [hv183_2] at ge183_2
                        have HL183_2 := Aside0.mk (show Kd.R (Kd.int .i64) 3 _ _ _ _ ((rd_T30 t173 x7_1).f2) from ge183_2)
                        clear hv183_2 ge183_2
                        clear hcc183 hce183
                        have HR183_2 := Aside0.mk hi183_2
                        have HC183_2 := Aside0.mk hl183_2
                        clear hi183_2 hl183_2
                        replace p183 := eq_true p183
                        replace q183 := eq_true q183
                        have ea_ := Option.some.inj (hx182_2.symm.trans hx183_2)
                        injection ea_ with ea_ en_ ec_
                        subst ea_
                        subst ec_
                        clear en_
                        go_wp2_with (first | (go_at_call 28; (with_reducible refine (decanterref04_Begins.calls a0 ((rd_T30 t173 x7_1).f0) true _ A20.out).mono ?_); rintro e w' ⟨rfl, ⟨nd, rfl⟩⟩; have p185 : 0 ≤ (x7_1 : Int) := of_decide_eq_true (by first | (with_reducible assumption) | assumption); have q185 : x7_1 < (t173.length : Int) := of_decide_eq_true (by first | (with_reducible assumption) | assumption); obtain ⟨ad185, A185_2, c185_2, e185, hx185_0, hx185_1, hx185_2, hl185_2, hi185_2⟩ := at_T30 (Kd.S_reads' HO_6.out).2.2 x7_1 p185 q185; (try rw [← Nbq18.out] at hx185_1); obtain rfl : ad182 = ad185 := (by injection e185); obtain ⟨ce185, hce185, hMe185, hcc185⟩ := Kd.S_get HO_6.out z30 x7_1 p185 (by first | exact q185 | exact of_decide_eq_true (by first | (with_reducible assumption) | assumption) | (have e_ := (Kd.S_reads' HO_6.out).1; omega)); obtain ⟨ve185_2, rfl, ge185_2⟩ := k30_openM hMe185; have hv185_2 := hcc185 2 _ rfl; rw [add_field _ _ 2 (by omega)] at hv185_2; replace hv185_2 := Option.some.inj (hv185_2.symm.trans hx185_2); rw [hv185_2] at ge185_2; have HL185_2 := Aside0.mk (show Kd.R (Kd.int .i64) 3 _ _ _ _ ((rd_T30 t173 x7_1).f2) from ge185_2); clear hv185_2 ge185_2; clear hcc185 hce185; have HR185_2 := Aside0.mk hi185_2; have HC185_2 := Aside0.mk hl185_2; clear hi185_2 hl185_2; replace p185 := eq_true p185; replace q185 := eq_true q185; have ea_ := Option.some.inj (hx182_2.symm.trans hx185_2); injection ea_ with ea_ en_ ec_; subst ea_; subst ec_; clear en_; have p186 : 0 ≤ (x7_1 : Int) := of_decide_eq_true (by first | (with_reducible assumption) | assumption); have q186 : x7_1 < (t173.length : Int) := of_decide_eq_true (by first | (with_reducible assumption) | assumption); obtain ⟨ad186, A186_2, c186_2, e186, hx186_0, hx186_1, hx186_2, hl186_2, hi186_2⟩ := at_T30 (Kd.S_reads' HO_6.out).2.2 x7_1 p186 q186; (try rw [← Nbq18.out] at hx186_1); obtain rfl : ad182 = ad186 := (by injection e186); obtain ⟨ce186, hce186, hMe186, hcc186⟩ := Kd.S_get HO_6.out z30 x7_1 p186 (by first | exact q186 | exact of_decide_eq_true (by first | (with_reducible assumption) | assumption) | (have e_ := (Kd.S_reads' HO_6.out).1; omega)); obtain ⟨ve186_2, rfl, ge186_2⟩ := k30_openM hMe186; have hv186_2 := hcc186 2 _ rfl; rw [add_field _ _ 2 (by omega)] at hv186_2; replace hv186_2 := Option.some.inj (hv186_2.symm.trans hx186_2); rw [hv186_2] at ge186_2; have HL186_2 := Aside0.mk (show Kd.R (Kd.int .i64) 3 _ _ _ _ ((rd_T30 t173 x7_1).f2) from ge186_2); clear hv186_2 ge186_2; clear hcc186 hce186; have HR186_2 := Aside0.mk hi186_2; have HC186_2 := Aside0.mk hl186_2; clear hi186_2 hl186_2; replace p186 := eq_true p186; replace q186 := eq_true q186; have ea_ := Option.some.inj (hx182_2.symm.trans hx186_2); injection ea_ with ea_ en_ ec_; subst ea_; subst ec_; clear en_; have p187 : 0 ≤ (x7_1 : Int) := of_decide_eq_true (by first | (with_reducible assumption) | assumption); have q187 : x7_1 < (t173.length : Int) := of_decide_eq_true (by first | (with_reducible assumption) | assumption); obtain ⟨ad187, A187_2, c187_2, e187, hx187_0, hx187_1, hx187_2, hl187_2, hi187_2⟩ := at_T30 (Kd.S_reads' HO_6.out).2.2 x7_1 p187 q187; (try rw [← Nbq18.out] at hx187_1); obtain rfl : ad182 = ad187 := (by injection e187); obtain ⟨ce187, hce187, hMe187, hcc187⟩ := Kd.S_get HO_6.out z30 x7_1 p187 (by first | exact q187 | exact of_decide_eq_true (by first | (with_reducible assumption) | assumption) | (have e_ := (Kd.S_reads' HO_6.out).1; omega)); obtain ⟨ve187_2, rfl, ge187_2⟩ := k30_openM hMe187; have hv187_2 := hcc187 2 _ rfl; rw [add_field _ _ 2 (by omega)] at hv187_2; replace hv187_2 := Option.some.inj (hv187_2.symm.trans hx187_2); rw [hv187_2] at ge187_2; have HL187_2 := Aside0.mk (show Kd.R (Kd.int .i64) 3 _ _ _ _ ((rd_T30 t173 x7_1).f2) from ge187_2); clear hv187_2 ge187_2; clear hcc187 hce187; have HR187_2 := Aside0.mk hi187_2; have HC187_2 := Aside0.mk hl187_2; clear hi187_2 hl187_2; replace p187 := eq_true p187; replace q187 := eq_true q187; have ea_ := Option.some.inj (hx182_2.symm.trans hx187_2); injection ea_ with ea_ en_ ec_; subst ea_; subst ec_; clear en_) | ((with_reducible refine gate_callee (f := 29) rfl ?_); refine goesL_ (some 82) rfl rfl Tryd.func29 (by kernel_rfl) rfl #[.slice A182_2 ((rd_T30 t173 x7_1).f2).length c182_2] rfl (by (try simp only [List.map_toArray, List.map_cons, List.map_nil]); first | done | rfl | (simp only [List.length_drop, List.length_take]; rfl)) ?_; (with_reducible refine (decanterref04_Text.calls kj4 _ _ ((rd_T30 t173 x7_1).f2) t188 _ ?side1 ?side2 A23.out).mono ?_); (case side1 => repeat (first | exact (by repeat (first | (with_reducible exact HR187_2.out) | (with_reducible refine Kd.C_alloc ?_ _) | (with_reducible refine Kd.C_drewN ?_ _) | (with_reducible refine Kd.C_drew ?_) | exact HR187_2.out)) | (with_reducible refine Kd.C_alloc ?_ _) | (with_reducible refine Kd.C_drewN ?_ _) | (with_reducible refine Kd.C_drew ?_))); (case side2 => exact HC187_2.out); rintro e w24 ⟨rfl, hb⟩; refine ⟨_, rfl, ?_⟩; have n0_ := Aside0.mk (Kd.S_below (by (with_reducible repeat (first | apply Kd.S_alloc | apply Kd.S_drewN | apply Kd.S_drew)); exact HO_6.out) hb); have n1_ := Aside0.mk (Kd.R_below (by (with_reducible repeat (first | apply Kd.R_alloc | apply Kd.R_drewN | apply Kd.R_drew)); exact HL182_2.out) hb); have n2_ := Aside0.mk (Kd.R_below (by (with_reducible repeat (first | apply Kd.R_alloc | apply Kd.R_drewN | apply Kd.R_drew)); exact HL183_2.out) hb); have n3_ := Aside0.mk (Kd.R_below (by (with_reducible repeat (first | apply Kd.R_alloc | apply Kd.R_drewN | apply Kd.R_drew)); exact HL185_2.out) hb); have n4_ := Aside0.mk (Kd.R_below (by (with_reducible repeat (first | apply Kd.R_alloc | apply Kd.R_drewN | apply Kd.R_drew)); exact HL186_2.out) hb); have n5_ := Aside0.mk (Kd.R_below (by (with_reducible repeat (first | apply Kd.R_alloc | apply Kd.R_drewN | apply Kd.R_drew)); exact HL187_2.out) hb); have n6_ := Aside0.mk (Kd.C_below (by repeat (first | (with_reducible exact HR182_2.out) | (with_reducible refine Kd.C_alloc ?_ _) | (with_reducible refine Kd.C_drewN ?_ _) | (with_reducible refine Kd.C_drew ?_) | exact HR182_2.out)) hb); have n7_ := Aside0.mk (Kd.C_below (by repeat (first | (with_reducible exact HR183_2.out) | (with_reducible refine Kd.C_alloc ?_ _) | (with_reducible refine Kd.C_drewN ?_ _) | (with_reducible refine Kd.C_drew ?_) | exact HR183_2.out)) hb); have n8_ := Aside0.mk (Kd.C_below (by repeat (first | (with_reducible exact HR185_2.out) | (with_reducible refine Kd.C_alloc ?_ _) | (with_reducible refine Kd.C_drewN ?_ _) | (with_reducible refine Kd.C_drew ?_) | exact HR185_2.out)) hb); have n9_ := Aside0.mk (Kd.C_below (by repeat (first | (with_reducible exact HR186_2.out) | (with_reducible refine Kd.C_alloc ?_ _) | (with_reducible refine Kd.C_drewN ?_ _) | (with_reducible refine Kd.C_drew ?_) | exact HR186_2.out)) hb); have n10_ := Aside0.mk (Kd.C_below (by repeat (first | (with_reducible exact HR187_2.out) | (with_reducible refine Kd.C_alloc ?_ _) | (with_reducible refine Kd.C_drewN ?_ _) | (with_reducible refine Kd.C_drew ?_) | exact HR187_2.out)) hb); have n11_ := Aside0.mk (below_step (by repeat (first | (with_reducible first | exact HB.out | apply below_alloc | apply pw_below_drewN | apply below_drew1) | exact HB.out)) hb); clear HO_6; clear HL182_2; clear HL183_2; clear HL185_2; clear HL186_2; clear HL187_2; clear HR182_2; clear HR183_2; clear HR185_2; clear HR186_2; clear HR187_2; clear HB; have HO_6 := n0_; have HL182_2 := n1_; have HL183_2 := n2_; have HL185_2 := n3_; have HL186_2 := n4_; have HL187_2 := n5_; have HR182_2 := n6_; have HR183_2 := n7_; have HR185_2 := n8_; have HR186_2 := n9_; have HR187_2 := n10_; have HB := n11_; clear n0_ n1_ n2_ n3_ n4_ n5_ n6_ n7_ n8_ n9_ n10_ n11_; (try clear hb); (try clear hb2); (try clear hk); (try clear hi)))
                        go_roundg kj4
                        case measure => have := HK1.out; have := HJ4.out; omega
                        case rel => exact ⟨((((rd_T30 t173 x7_1).f0).size : Int)), (t188), (wrap64 (x7_1 + 1)), (by first | rfl | (simp; done) | (rw [Go.IntWalk.wrap64_in (x7_1 + 1) (by omega)]; done) | (rw [Go.IntWalk.wrap64_in (x7_1 + 1) (by omega)]; simp; done) | (simp [*]; done)), (by first | rfl | (simp; done) | (rw [Go.IntWalk.wrap64_in (x7_1 + 1) (by omega)]; done) | (rw [Go.IntWalk.wrap64_in (x7_1 + 1) (by omega)]; simp; done) | (simp [*]; done)), (by first | rfl | (simp; done) | (rw [Go.IntWalk.wrap64_in (x7_1 + 1) (by omega)]; done) | (rw [Go.IntWalk.wrap64_in (x7_1 + 1) (by omega)]; simp; done) | (simp [*]; done)), H', ⟨by have := HK1.out; have := HJ4.out; omega⟩, ⟨by (with_reducible repeat (first | apply Kd.S_alloc | apply Kd.S_drewN | apply Kd.S_drew)); exact HO_6.out⟩, ⟨by repeat (first | (with_reducible first | exact HB.out | apply below_alloc | apply pw_below_drewN | apply below_drew1) | exact HB.out)⟩⟩
                      · rw [if_neg c22] at H
                        have c22b0 : decide (x4_1 < (((rd_T30 t173 x7_1).f0).size : Int)) = false := decide_eq_false c22
                        clear c22
                        have H' := Aside0.mk H
                        clear H
                        have p182 : 0 ≤ (x7_1 : Int) := of_decide_eq_true (by first | (with_reducible assumption) | assumption)
                        have q182 : x7_1 < (t173.length : Int) := of_decide_eq_true (by first | (with_reducible assumption) | assumption)
                        obtain ⟨ad182, A182_2, c182_2, e182, hx182_0, hx182_1, hx182_2, hl182_2, hi182_2⟩ := at_T30 (Kd.S_reads' HO_6.out).2.2 x7_1 p182 q182
                        (try rw [← Nbq18.out] at hx182_1)
                        cases e182
                        obtain ⟨ce182, hce182, hMe182, hcc182⟩ := Kd.S_get HO_6.out z30 x7_1 p182 (by first | exact q182 | exact of_decide_eq_true (by first | (with_reducible assumption) | assumption) | (have e_ := (Kd.S_reads' HO_6.out).1; omega))
                        obtain ⟨ve182_2, rfl, ge182_2⟩ := k30_openM hMe182
                        have hv182_2 := hcc182 2 _ rfl
                        rw [add_field _ _ 2 (by omega)] at hv182_2
                        replace hv182_2 := Option.some.inj (hv182_2.symm.trans hx182_2)
                        rw [hv182_2] at ge182_2
                        have HL182_2 := Aside0.mk (show Kd.R (Kd.int .i64) 3 _ _ _ _ ((rd_T30 t173 x7_1).f2) from ge182_2)
                        clear hv182_2 ge182_2
                        clear hcc182 hce182
                        have HR182_2 := Aside0.mk hi182_2
                        have HC182_2 := Aside0.mk hl182_2
                        clear hi182_2 hl182_2
                        replace p182 := eq_true p182
                        replace q182 := eq_true q182
                        have p183 : 0 ≤ (x7_1 : Int) := of_decide_eq_true (by first | (with_reducible assumption) | assumption)
                        have q183 : x7_1 < (t173.length : Int) := of_decide_eq_true (by first | (with_reducible assumption) | assumption)
                        obtain ⟨ad183, A183_2, c183_2, e183, hx183_0, hx183_1, hx183_2, hl183_2, hi183_2⟩ := at_T30 (Kd.S_reads' HO_6.out).2.2 x7_1 p183 q183
                        (try rw [← Nbq18.out] at hx183_1)
                        obtain rfl : ad182 = ad183 := (by injection e183)
                        obtain ⟨ce183, hce183, hMe183, hcc183⟩ := Kd.S_get HO_6.out z30 x7_1 p183 (by first | exact q183 | exact of_decide_eq_true (by first | (with_reducible assumption) | assumption) | (have e_ := (Kd.S_reads' HO_6.out).1; omega))
                        obtain ⟨ve183_2, rfl, ge183_2⟩ := k30_openM hMe183
                        have hv183_2 := hcc183 2 _ rfl
                        rw [add_field _ _ 2 (by omega)] at hv183_2
                        replace hv183_2 := Option.some.inj (hv183_2.symm.trans hx183_2)
                        rw [hv183_2] at ge183_2
                        have HL183_2 := Aside0.mk (show Kd.R (Kd.int .i64) 3 _ _ _ _ ((rd_T30 t173 x7_1).f2) from ge183_2)
                        clear hv183_2 ge183_2
                        clear hcc183 hce183
                        have HR183_2 := Aside0.mk hi183_2
                        have HC183_2 := Aside0.mk hl183_2
                        clear hi183_2 hl183_2
                        replace p183 := eq_true p183
                        replace q183 := eq_true q183
                        have ea_ := Option.some.inj (hx182_2.symm.trans hx183_2)
                        injection ea_ with ea_ en_ ec_
                        subst ea_
                        subst ec_
                        clear en_
                        go_wp2_with (first | (go_at_call 28; (with_reducible refine (decanterref04_Begins.calls a0 ((rd_T30 t173 x7_1).f0) true _ A20.out).mono ?_); rintro e w' ⟨rfl, ⟨nd, rfl⟩⟩; have p185 : 0 ≤ (x7_1 : Int) := of_decide_eq_true (by first | (with_reducible assumption) | assumption); have q185 : x7_1 < (t173.length : Int) := of_decide_eq_true (by first | (with_reducible assumption) | assumption); obtain ⟨ad185, A185_2, c185_2, e185, hx185_0, hx185_1, hx185_2, hl185_2, hi185_2⟩ := at_T30 (Kd.S_reads' HO_6.out).2.2 x7_1 p185 q185; (try rw [← Nbq18.out] at hx185_1); obtain rfl : ad182 = ad185 := (by injection e185); obtain ⟨ce185, hce185, hMe185, hcc185⟩ := Kd.S_get HO_6.out z30 x7_1 p185 (by first | exact q185 | exact of_decide_eq_true (by first | (with_reducible assumption) | assumption) | (have e_ := (Kd.S_reads' HO_6.out).1; omega)); obtain ⟨ve185_2, rfl, ge185_2⟩ := k30_openM hMe185; have hv185_2 := hcc185 2 _ rfl; rw [add_field _ _ 2 (by omega)] at hv185_2; replace hv185_2 := Option.some.inj (hv185_2.symm.trans hx185_2); rw [hv185_2] at ge185_2; have HL185_2 := Aside0.mk (show Kd.R (Kd.int .i64) 3 _ _ _ _ ((rd_T30 t173 x7_1).f2) from ge185_2); clear hv185_2 ge185_2; clear hcc185 hce185; have HR185_2 := Aside0.mk hi185_2; have HC185_2 := Aside0.mk hl185_2; clear hi185_2 hl185_2; replace p185 := eq_true p185; replace q185 := eq_true q185; have ea_ := Option.some.inj (hx182_2.symm.trans hx185_2); injection ea_ with ea_ en_ ec_; subst ea_; subst ec_; clear en_))
                        go_roundg kj4
                        case measure => have := HK1.out; have := HJ4.out; omega
                        case rel => exact ⟨(x4_1), (x5_1), (wrap64 (x7_1 + 1)), (by first | rfl | (simp; done) | (rw [Go.IntWalk.wrap64_in (x7_1 + 1) (by omega)]; done) | (rw [Go.IntWalk.wrap64_in (x7_1 + 1) (by omega)]; simp; done) | (simp [*]; done)), (by first | rfl | (simp; done) | (rw [Go.IntWalk.wrap64_in (x7_1 + 1) (by omega)]; done) | (rw [Go.IntWalk.wrap64_in (x7_1 + 1) (by omega)]; simp; done) | (simp [*]; done)), (by first | rfl | (simp; done) | (rw [Go.IntWalk.wrap64_in (x7_1 + 1) (by omega)]; done) | (rw [Go.IntWalk.wrap64_in (x7_1 + 1) (by omega)]; simp; done) | (simp [*]; done)), H', ⟨by have := HK1.out; have := HJ4.out; omega⟩, ⟨by (with_reducible repeat (first | apply Kd.S_alloc | apply Kd.S_drewN | apply Kd.S_drew)); exact HO_6.out⟩, ⟨by repeat (first | (with_reducible first | exact HB.out | apply below_alloc | apply pw_below_drewN | apply below_drew1) | exact HB.out)⟩⟩
                    · replace c21 := Bool.eq_false_iff.mpr c21
                      subst c21
                      have H1 : (decanterref04_Find.l0 kj4 a0 x4_1 x5_1 t173 (wrap64 (x7_1 + 1))) = some (r1, r2) := by rw [if_neg (show ¬ (false = true) by decide)] at H; exact H
                      clear H
                      have H := H1
                      clear H1
                      have H' := Aside0.mk H
                      clear H
                      have p182 : 0 ≤ (x7_1 : Int) := of_decide_eq_true (by first | (with_reducible assumption) | assumption)
                      have q182 : x7_1 < (t173.length : Int) := of_decide_eq_true (by first | (with_reducible assumption) | assumption)
                      obtain ⟨ad182, A182_2, c182_2, e182, hx182_0, hx182_1, hx182_2, hl182_2, hi182_2⟩ := at_T30 (Kd.S_reads' HO_6.out).2.2 x7_1 p182 q182
                      (try rw [← Nbq18.out] at hx182_1)
                      cases e182
                      obtain ⟨ce182, hce182, hMe182, hcc182⟩ := Kd.S_get HO_6.out z30 x7_1 p182 (by first | exact q182 | exact of_decide_eq_true (by first | (with_reducible assumption) | assumption) | (have e_ := (Kd.S_reads' HO_6.out).1; omega))
                      obtain ⟨ve182_2, rfl, ge182_2⟩ := k30_openM hMe182
                      have hv182_2 := hcc182 2 _ rfl
                      rw [add_field _ _ 2 (by omega)] at hv182_2
                      replace hv182_2 := Option.some.inj (hv182_2.symm.trans hx182_2)
                      rw [hv182_2] at ge182_2
                      have HL182_2 := Aside0.mk (show Kd.R (Kd.int .i64) 3 _ _ _ _ ((rd_T30 t173 x7_1).f2) from ge182_2)
                      clear hv182_2 ge182_2
                      clear hcc182 hce182
                      have HR182_2 := Aside0.mk hi182_2
                      have HC182_2 := Aside0.mk hl182_2
                      clear hi182_2 hl182_2
                      replace p182 := eq_true p182
                      replace q182 := eq_true q182
                      have p183 : 0 ≤ (x7_1 : Int) := of_decide_eq_true (by first | (with_reducible assumption) | assumption)
                      have q183 : x7_1 < (t173.length : Int) := of_decide_eq_true (by first | (with_reducible assumption) | assumption)
                      obtain ⟨ad183, A183_2, c183_2, e183, hx183_0, hx183_1, hx183_2, hl183_2, hi183_2⟩ := at_T30 (Kd.S_reads' HO_6.out).2.2 x7_1 p183 q183
                      (try rw [← Nbq18.out] at hx183_1)
                      obtain rfl : ad182 = ad183 := (by injection e183)
                      obtain ⟨ce183, hce183, hMe183, hcc183⟩ := Kd.S_get HO_6.out z30 x7_1 p183 (by first | exact q183 | exact of_decide_eq_true (by first | (with_reducible assumption) | assumption) | (have e_ := (Kd.S_reads' HO_6.out).1; omega))
                      obtain ⟨ve183_2, rfl, ge183_2⟩ := k30_openM hMe183
                      have hv183_2 := hcc183 2 _ rfl
                      rw [add_field _ _ 2 (by omega)] at hv183_2
                      replace hv183_2 := Option.some.inj (hv183_2.symm.trans hx183_2)
                      rw [hv183_2] at ge183_2
                      have HL183_2 := Aside0.mk (show Kd.R (Kd.int .i64) 3 _ _ _ _ ((rd_T30 t173 x7_1).f2) from ge183_2)
                      clear hv183_2 ge183_2
                      clear hcc183 hce183
                      have HR183_2 := Aside0.mk hi183_2
                      have HC183_2 := Aside0.mk hl183_2
                      clear hi183_2 hl183_2
                      replace p183 := eq_true p183
                      replace q183 := eq_true q183
                      have ea_ := Option.some.inj (hx182_2.symm.trans hx183_2)
                      injection ea_ with ea_ en_ ec_
                      subst ea_
                      subst ec_
                      clear en_
                      go_wp2_with (first | (go_at_call 28; (with_reducible refine (decanterref04_Begins.calls a0 ((rd_T30 t173 x7_1).f0) false _ A20.out).mono ?_); rintro e w' ⟨rfl, ⟨nd, rfl⟩⟩))
                      go_roundg kj4
                      case measure => have := HK1.out; have := HJ4.out; omega
                      case rel => exact ⟨(x4_1), (x5_1), (wrap64 (x7_1 + 1)), (by first | rfl | (simp; done) | (rw [Go.IntWalk.wrap64_in (x7_1 + 1) (by omega)]; done) | (rw [Go.IntWalk.wrap64_in (x7_1 + 1) (by omega)]; simp; done) | (simp [*]; done)), (by first | rfl | (simp; done) | (rw [Go.IntWalk.wrap64_in (x7_1 + 1) (by omega)]; done) | (rw [Go.IntWalk.wrap64_in (x7_1 + 1) (by omega)]; simp; done) | (simp [*]; done)), (by first | rfl | (simp; done) | (rw [Go.IntWalk.wrap64_in (x7_1 + 1) (by omega)]; done) | (rw [Go.IntWalk.wrap64_in (x7_1 + 1) (by omega)]; simp; done) | (simp [*]; done)), H', ⟨by have := HK1.out; have := HJ4.out; omega⟩, ⟨by (with_reducible repeat (first | apply Kd.S_alloc | apply Kd.S_drewN | apply Kd.S_drew)); exact HO_6.out⟩, ⟨by repeat (first | (with_reducible first | exact HB.out | apply below_alloc | apply pw_below_drewN | apply below_drew1) | exact HB.out)⟩⟩
                  · replace c19 := Bool.eq_false_iff.mpr c19
                    subst c19
                    have H1 : (decanterref04_Find.l0 kj4 a0 x4_1 x5_1 t173 (wrap64 (x7_1 + 1))) = some (r1, r2) := by rw [if_neg (show ¬ (false = true) by decide)] at H; exact H
                    clear H
                    have H := H1
                    clear H1
                    have H' := Aside0.mk H
                    clear H
                    have p182 : 0 ≤ (x7_1 : Int) := of_decide_eq_true (by first | (with_reducible assumption) | assumption)
                    have q182 : x7_1 < (t173.length : Int) := of_decide_eq_true (by first | (with_reducible assumption) | assumption)
                    obtain ⟨ad182, A182_2, c182_2, e182, hx182_0, hx182_1, hx182_2, hl182_2, hi182_2⟩ := at_T30 (Kd.S_reads' HO_6.out).2.2 x7_1 p182 q182
                    (try rw [← Nbq18.out] at hx182_1)
                    cases e182
                    obtain ⟨ce182, hce182, hMe182, hcc182⟩ := Kd.S_get HO_6.out z30 x7_1 p182 (by first | exact q182 | exact of_decide_eq_true (by first | (with_reducible assumption) | assumption) | (have e_ := (Kd.S_reads' HO_6.out).1; omega))
                    obtain ⟨ve182_2, rfl, ge182_2⟩ := k30_openM hMe182
                    have hv182_2 := hcc182 2 _ rfl
                    rw [add_field _ _ 2 (by omega)] at hv182_2
                    replace hv182_2 := Option.some.inj (hv182_2.symm.trans hx182_2)
                    rw [hv182_2] at ge182_2
                    have HL182_2 := Aside0.mk (show Kd.R (Kd.int .i64) 3 _ _ _ _ ((rd_T30 t173 x7_1).f2) from ge182_2)
                    clear hv182_2 ge182_2
                    clear hcc182 hce182
                    have HR182_2 := Aside0.mk hi182_2
                    have HC182_2 := Aside0.mk hl182_2
                    clear hi182_2 hl182_2
                    replace p182 := eq_true p182
                    replace q182 := eq_true q182
                    go_wp2
                    go_roundg kj4
                    case measure => have := HK1.out; have := HJ4.out; omega
                    case rel => exact ⟨(x4_1), (x5_1), (wrap64 (x7_1 + 1)), (by first | rfl | (simp; done) | (rw [Go.IntWalk.wrap64_in (x7_1 + 1) (by omega)]; done) | (rw [Go.IntWalk.wrap64_in (x7_1 + 1) (by omega)]; simp; done) | (simp [*]; done)), (by first | rfl | (simp; done) | (rw [Go.IntWalk.wrap64_in (x7_1 + 1) (by omega)]; done) | (rw [Go.IntWalk.wrap64_in (x7_1 + 1) (by omega)]; simp; done) | (simp [*]; done)), (by first | rfl | (simp; done) | (rw [Go.IntWalk.wrap64_in (x7_1 + 1) (by omega)]; done) | (rw [Go.IntWalk.wrap64_in (x7_1 + 1) (by omega)]; simp; done) | (simp [*]; done)), H', ⟨by have := HK1.out; have := HJ4.out; omega⟩, ⟨by (with_reducible repeat (first | apply Kd.S_alloc | apply Kd.S_drewN | apply Kd.S_drew)); exact HO_6.out⟩, ⟨by repeat (first | (with_reducible first | exact HB.out | apply below_alloc | apply pw_below_drewN | apply below_drew1) | exact HB.out)⟩⟩
                · rw [if_neg c17] at H
                  exact absurd H (by simp)
              · rw [if_neg c16] at H
                exact absurd H (by simp)
      · rw [if_neg c4] at H
        have c4b0 : decide (x7_1 < (t173.length : Int)) = false := decide_eq_false c4
        clear c4
        simp only [Option.some.injEq, Prod.mk.injEq] at H
        obtain ⟨rfl, rfl⟩ := H
        obtain ⟨Ao25, co25, eo25⟩ := Kd.S_slice HO_6.out
        subst eo25
        go_wp2
        go_ret2
        exact ⟨by first | rfl | (simp [errW_none, errW_some] <;> rfl) | (simp [*, errW_none, errW_some] <;> rfl), by repeat (first | (with_reducible first | exact HB.out | apply below_alloc | apply pw_below_drewN | apply below_drew1) | exact HB.out)⟩

/-! ### decanterref03_Digit: function 39 -/
def decanterref03_Digit.f (a0 : Int) : Option (Bool) := if a0 ≥ 48 then (some (decide (a0 ≤ 57))) else (some false)
set_option maxHeartbeats 8000000 in
set_option maxRecDepth 100000 in
theorem decanterref03_Digit.calls (a0 : Int) (r : Bool) (w : World) (h : decanterref03_Digit.f a0 = some r) :
    Calls Tryd.prog 39 #[.int .i64 a0] w fun e w' => e = .returned (.bool r) ∧ Drawn0 w w' := by
  have H : (if a0 ≥ 48 then (some (decide (a0 ≤ 57))) else (some false)) = some r := h
  clear h
  by_cases c2 : a0 ≥ 48
  · rw [if_pos c2] at H
    have c2b0 : decide (48 ≤ a0) = true := decide_eq_true c2
    clear c2
    obtain rfl := Option.some.inj H
    go_enter Tryd.func39, Tryd.ntmps39
    go_wp2
    go_ret
    exact ⟨by first | rfl | (simp; done) | (simp [*]; done), by repeat (first | exact Drawn0.refl _ | apply Drawn0.step)⟩
  · rw [if_neg c2] at H
    have c2b0 : decide (48 ≤ a0) = false := decide_eq_false c2
    clear c2
    obtain rfl := Option.some.inj H
    go_enter Tryd.func39, Tryd.ntmps39
    go_wp2
    go_ret
    exact ⟨by first | rfl | (simp; done) | (simp [*]; done), by repeat (first | exact Drawn0.refl _ | apply Drawn0.step)⟩

/-! ### decanterref03_Hex: function 52 -/
def decanterref03_Hex.j0 : Nat → Int → Bool → Option (Int)
  | 0, _, _ => none
  | k + 1, x0, x12 => if x12 = true then (some (wrap64 (x0 - 87))) else (if x0 ≥ 65 then (if x0 ≤ 70 then (some (wrap64 (x0 - 55))) else (some (-1))) else (some (-1)))
def decanterref03_Hex.f (k : Nat) (a0 : Int) : Option (Int) := (decanterref03_Digit.f a0).bind fun t189 => (if t189 = true then (some (wrap64 (a0 - 48))) else (if a0 ≥ 97 then (decanterref03_Hex.j0 k a0 (decide (a0 ≤ 102))) else (decanterref03_Hex.j0 k a0 false)))
theorem decanterref03_Hex.mono_l : ∀ k, (∀ y0 y1, LeO (decanterref03_Hex.j0 k y0 y1) (decanterref03_Hex.j0 (k + 1) y0 y1))
  | 0 => fun _ _ r h => by simp [decanterref03_Hex.j0] at h
  | k + 1 => by
    have ih0 := decanterref03_Hex.mono_l k
    · intro y0 y1
      unfold decanterref03_Hex.j0
      repeat' first
      | (with_reducible exact ih0 _ _)
      | (with_reducible exact LeO.refl _)
      | (with_reducible exact LeO.none _)
      | (with_reducible refine LeO.ite ?_ ?_)
      | (with_reducible refine LeO.bind ?_ (fun _ => ?_))
      | exact ih0 _ _
      | exact LeO.none _
      | refine LeO.ite ?_ ?_
      | refine LeO.bind ?_ (fun _ => ?_)
theorem decanterref03_Hex.mono : ∀ a0 k, LeO (decanterref03_Hex.f k a0) (decanterref03_Hex.f (k + 1) a0) := by
  intro a0 k
  have ih0 := decanterref03_Hex.mono_l k
  unfold decanterref03_Hex.f
  repeat' first
      | (with_reducible exact ih0 _ _)
      | (with_reducible exact LeO.refl _)
      | (with_reducible exact LeO.none _)
      | (with_reducible refine LeO.ite ?_ ?_)
      | (with_reducible refine LeO.bind ?_ (fun _ => ?_))
      | exact ih0 _ _
      | exact LeO.none _
      | refine LeO.ite ?_ ?_
      | refine LeO.bind ?_ (fun _ => ?_)
set_option maxHeartbeats 8000000 in
set_option maxRecDepth 100000 in
theorem decanterref03_Hex.calls (k : Nat) (a0 : Int) (r : Int) (w : World) (h : decanterref03_Hex.f k a0 = some r) :
    Calls Tryd.prog 52 #[.int .i64 a0] w fun e w' => e = .returned (.int .i64 r) ∧ Drawn0 w w' := by
  have H : ((decanterref03_Digit.f a0).bind fun t189 => (if t189 = true then (some (wrap64 (a0 - 48))) else (if a0 ≥ 97 then (decanterref03_Hex.j0 k a0 (decide (a0 ≤ 102))) else (decanterref03_Hex.j0 k a0 false)))) = some r := h
  clear h
  replace H := Option.bind_eq_some_iff.mp H
  obtain ⟨t189, A20, H⟩ := H
  replace H : (if t189 = true then (some (wrap64 (a0 - 48))) else (if a0 ≥ 97 then (decanterref03_Hex.j0 k a0 (decide (a0 ≤ 102))) else (decanterref03_Hex.j0 k a0 false))) = some r := H
  have A2 := Aside0.mk A20
  clear A20
  by_cases c3 : t189 = true
  · subst c3
    have H1 : (some (wrap64 (a0 - 48))) = some r := by rw [if_pos rfl] at H; exact H
    clear H
    have H := H1
    clear H1
    obtain rfl := Option.some.inj H
    go_enter Tryd.func52, Tryd.ntmps52
    go_wp2_with (first | ((with_reducible refine gate_callee (f := 39) rfl ?_); refine goesL_ (some 4) rfl rfl Tryd.func39 (by kernel_rfl) rfl #[.int .i64 a0] rfl (by (try simp only [List.map_toArray, List.map_cons, List.map_nil]); first | done | rfl | (simp only [List.length_drop, List.length_take]; rfl)) ?_; (with_reducible refine (decanterref03_Digit.calls a0 true _ A2.out).mono ?_); rintro e w' ⟨rfl, ⟨nd, rfl⟩⟩; refine ⟨_, rfl, ?_⟩))
    go_ret
    exact ⟨by first | rfl | (simp; done) | (simp [*]; done), by repeat (first | exact Drawn0.refl _ | apply Drawn0.step)⟩
  · replace c3 := Bool.eq_false_iff.mpr c3
    subst c3
    have H1 : (if a0 ≥ 97 then (decanterref03_Hex.j0 k a0 (decide (a0 ≤ 102))) else (decanterref03_Hex.j0 k a0 false)) = some r := by rw [if_neg (show ¬ (false = true) by decide)] at H; exact H
    clear H
    have H := H1
    clear H1
    have HC4 := Aside0.mk H
    clear H
    go_enter Tryd.func52, Tryd.ntmps52
    go_upto_region 3 with (first | ((with_reducible refine gate_callee (f := 39) rfl ?_); refine goesL_ (some 4) rfl rfl Tryd.func39 (by kernel_rfl) rfl #[.int .i64 a0] rfl (by (try simp only [List.map_toArray, List.map_cons, List.map_nil]); first | done | rfl | (simp only [List.length_drop, List.length_take]; rfl)) ?_; (with_reducible refine (decanterref03_Digit.calls a0 false _ A2.out).mono ?_); rintro e w' ⟨rfl, ⟨nd, rfl⟩⟩; refine ⟨_, rfl, ?_⟩))
    (try simp only [Act.put, List.setIfInBounds_toArray, List.set_cons_zero, List.set_cons_succ])
    go_cut [12] (fun v12 wc => ∃ (kq : Nat) (x12_3 : Bool), v12 = .bool x12_3 ∧ Aside0 (decanterref03_Hex.j0 kq a0 x12_3 = some r) ∧ Aside0 (kq ≤ k) ∧ Drawn0 w wc)
    case first =>
      have H := HC4.out
      clear HC4
      by_cases c5 : a0 ≥ 97
      · rw [if_pos c5] at H
        have c5b0 : decide (97 ≤ a0) = true := decide_eq_true c5
        clear c5
        (first | rw [c5b0] | (simp only [i64_w, i32_w]; rw [c5b0]) | skip)
        have H' := Aside0.mk H
        clear H
        go_wp2
        go_meet
        case rel => exact ⟨_, (decide (a0 ≤ 102)), (by first | rfl | (simp; done) | (simp [*]; done)), H', ⟨by first | omega | exact Nat.le_refl _⟩, by repeat (first | exact Drawn0.refl _ | apply Drawn0.step)⟩
      · rw [if_neg c5] at H
        have c5b0 : decide (97 ≤ a0) = false := decide_eq_false c5
        clear c5
        (first | rw [c5b0] | (simp only [i64_w, i32_w]; rw [c5b0]) | skip)
        have H' := Aside0.mk H
        clear H
        go_wp2
        go_meet
        case rel => exact ⟨_, (false), (by first | rfl | (simp; done) | (simp [*]; done)), H', ⟨by first | omega | exact Nat.le_refl _⟩, by repeat (first | exact Drawn0.refl _ | apply Drawn0.step)⟩
    case rest =>
      clear HC4
      try clear p2
      try clear c3
      try clear c5
      try clear c5b0
      obtain ⟨kq, x12_3, rfl, HA, HJ3, ⟨mc3, rfl⟩⟩ := hcut
      cases kq with
      | zero => exact absurd HA.out (by simp [decanterref03_Hex.j0])
      | succ kj3 =>
        have H := HA.out
        clear HA
        simp only [decanterref03_Hex.j0] at H
        by_cases c6 : x12_3 = true
        · subst c6
          have H1 : (some (wrap64 (a0 - 87))) = some r := by rw [if_pos rfl] at H; exact H
          clear H
          have H := H1
          clear H1
          obtain rfl := Option.some.inj H
          go_wp2
          go_ret
          exact ⟨by first | rfl | (simp; done) | (simp [*]; done), by repeat (first | exact Drawn0.refl _ | apply Drawn0.step)⟩
        · replace c6 := Bool.eq_false_iff.mpr c6
          subst c6
          have H1 : (if a0 ≥ 65 then (if a0 ≤ 70 then (some (wrap64 (a0 - 55))) else (some (-1))) else (some (-1))) = some r := by rw [if_neg (show ¬ (false = true) by decide)] at H; exact H
          clear H
          have H := H1
          clear H1
          by_cases c7 : a0 ≥ 65
          · rw [if_pos c7] at H
            have c7b0 : decide (65 ≤ a0) = true := decide_eq_true c7
            clear c7
            by_cases c8 : a0 ≤ 70
            · rw [if_pos c8] at H
              have c8b0 : decide (a0 ≤ 70) = true := decide_eq_true c8
              clear c8
              obtain rfl := Option.some.inj H
              go_wp2
              go_ret
              exact ⟨by first | rfl | (simp; done) | (simp [*]; done), by repeat (first | exact Drawn0.refl _ | apply Drawn0.step)⟩
            · rw [if_neg c8] at H
              have c8b0 : decide (a0 ≤ 70) = false := decide_eq_false c8
              clear c8
              obtain rfl := Option.some.inj H
              go_wp2
              go_ret
              exact ⟨by first | rfl | (simp; done) | (simp [*]; done), by repeat (first | exact Drawn0.refl _ | apply Drawn0.step)⟩
          · rw [if_neg c7] at H
            have c7b0 : decide (65 ≤ a0) = false := decide_eq_false c7
            clear c7
            obtain rfl := Option.some.inj H
            go_wp2
            go_ret
            exact ⟨by first | rfl | (simp; done) | (simp [*]; done), by repeat (first | exact Drawn0.refl _ | apply Drawn0.step)⟩

end Go.Proofs.YtnmjocoopbfpnaaDoor.PRefA
