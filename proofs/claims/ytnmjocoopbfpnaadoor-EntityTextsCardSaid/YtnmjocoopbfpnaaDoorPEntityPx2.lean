-- Laid by a program of this session (tools/patch_print.py) out of the translation. Not trusted: Lean checks it.
import Derived.Test.YtnmjocoopbfpnaaDoorPEntityPx0
import Derived.Test.YtnmjocoopbfpnaaDoorPEntityPx1
namespace Go.Proofs.YtnmjocoopbfpnaaDoor.PEntityP
open Go.RowKit Go.Proofs.YtnmjocoopbfpnaaDoorW.PrintWords Go.Proofs.YtnmjocoopbfpnaaDoorW.PrintLast Go.Proofs.YtnmjocoopbfpnaaDoorW.PrintMore
attribute [local go_sem] max2_int min2_int max_two min_two max_three min_three max_four min_four   -- for this text's walks alone
set_option linter.unusedVariables false
set_option linter.unusedSimpArgs false

/-! ### decanterlaw04_EntityPrefix: function 5 -/
mutual
def decanterlaw04_EntityPrefix.j0 : Nat → Int → ByteArray → Bool → Option (Bool)
  | 0, _, _, _ => none
  | k + 1, x0, x1, x22 => if x22 = true then ((decanterlaw04_speaks.f k).bind fun t108 => (some t108)) else ((entity_Names.f).bind fun t109 => (if (t109.length : Int) = 0 then (some false) else (if 0 ≤ (Int.tmod (wrap64 (x0)) (t109.length : Int)) then (if (Int.tmod (wrap64 (x0)) (t109.length : Int)) < (t109.length : Int) then (if (rdOf ByteArray.empty t109 (Int.tmod (wrap64 (x0)) (t109.length : Int))).size + x1.size ≤ 9223372036854775807 then ((entity_Find.f k ((rdOf ByteArray.empty t109 (Int.tmod (wrap64 (x0)) (t109.length : Int))) ++ x1)).bind fun bt113 => ((entity_Find.f k (rdOf ByteArray.empty t109 (Int.tmod (wrap64 (x0)) (t109.length : Int)))).bind fun bt115 => (if bt113.1 < ((rdOf ByteArray.empty t109 (Int.tmod (wrap64 (x0)) (t109.length : Int))).size : Int) then (decanterlaw04_EntityPrefix.j1 k x1 (rdOf ByteArray.empty t109 (Int.tmod (wrap64 (x0)) (t109.length : Int))) bt113.1 bt113.2 bt115.1 bt115.2 true) else (if bt115.1 = ((rdOf ByteArray.empty t109 (Int.tmod (wrap64 (x0)) (t109.length : Int))).size : Int) then (if bt113.1 = bt115.1 then (decanterlaw04_EntityPrefix.j1 k x1 (rdOf ByteArray.empty t109 (Int.tmod (wrap64 (x0)) (t109.length : Int))) bt113.1 bt113.2 bt115.1 bt115.2 (bt113.2.toList != bt115.2.toList)) else (decanterlaw04_EntityPrefix.j1 k x1 (rdOf ByteArray.empty t109 (Int.tmod (wrap64 (x0)) (t109.length : Int))) bt113.1 bt113.2 bt115.1 bt115.2 false)) else (decanterlaw04_EntityPrefix.j1 k x1 (rdOf ByteArray.empty t109 (Int.tmod (wrap64 (x0)) (t109.length : Int))) bt113.1 bt113.2 bt115.1 bt115.2 true))))) else (none)) else (none)) else (none))))
def decanterlaw04_EntityPrefix.j1 : Nat → ByteArray → ByteArray → Int → ByteArray → Int → ByteArray → Bool → Option (Bool)
  | 0, _, _, _, _, _, _, _ => none
  | k + 1, x1, x6, x7, x8, x9, x10, x67 => if x67 = true then (some false) else (if x7 > x9 then (if x6.size + x1.size ≤ 9223372036854775807 then (if 0 ≤ x7 then (if x7 ≤ ((x6 ++ x1).size : Int) then ((entity_Find.f k ((x6 ++ x1).extract 0 (x7 : Int).toNat)).bind fun bt117 => (if bt117.1 = x7 then (some (bt117.2.toList == x8.toList)) else (some false))) else (none)) else (none)) else (none)) else (if x6.size + 1 ≤ 9223372036854775807 then ((entity_Find.f k (x6 ++ (⟨#[59]⟩ : ByteArray))).bind fun bt119 => (if 0 ≤ (wrap64 ((x6.size : Int) - 1)) then (if (wrap64 ((x6.size : Int) - 1)) < (x6.size : Int) then (if (bt x6 (wrap64 ((x6.size : Int) - 1))) = 59 then (some true) else (if bt119.1 = (wrap64 (x9 + 1)) then (some (bt119.2.toList == x10.toList)) else (some false))) else (none)) else (none))) else (none)))
end
def decanterlaw04_EntityPrefix.f (k : Nat) (a0 : Int) (a1 : ByteArray) : Option (Bool) := (decanterlaw04_speaks.f k).bind fun t107 => (if t107 = true then (decanterlaw04_EntityPrefix.j0 k a0 a1 (decide ((a1.size : Int) > 100))) else (decanterlaw04_EntityPrefix.j0 k a0 a1 true))
theorem decanterlaw04_EntityPrefix.mono_l : ∀ k, (∀ y0 y1 y2, LeO (decanterlaw04_EntityPrefix.j0 k y0 y1 y2) (decanterlaw04_EntityPrefix.j0 (k + 1) y0 y1 y2)) ∧ (∀ y0 y1 y2 y3 y4 y5 y6, LeO (decanterlaw04_EntityPrefix.j1 k y0 y1 y2 y3 y4 y5 y6) (decanterlaw04_EntityPrefix.j1 (k + 1) y0 y1 y2 y3 y4 y5 y6))
  | 0 => ⟨fun _ _ _ r h => by simp [decanterlaw04_EntityPrefix.j0] at h, fun _ _ _ _ _ _ _ r h => by simp [decanterlaw04_EntityPrefix.j1] at h⟩
  | k + 1 => by
    obtain ⟨ih0, ih1⟩ := decanterlaw04_EntityPrefix.mono_l k
    refine ⟨?_, ?_⟩
    · intro y0 y1 y2
      unfold decanterlaw04_EntityPrefix.j0
      repeat' first
      | (with_reducible exact ih0 _ _ _)
      | (with_reducible exact ih1 _ _ _ _ _ _ _)
      | (with_reducible exact decanterlaw04_speaks.mono _)
      | (with_reducible exact entity_Find.mono _ _)
      | (with_reducible exact LeO.refl _)
      | (with_reducible exact LeO.none _)
      | (with_reducible refine LeO.ite ?_ ?_)
      | (with_reducible refine LeO.bind ?_ (fun _ => ?_))
      | exact ih0 _ _ _
      | exact ih1 _ _ _ _ _ _ _
      | exact decanterlaw04_speaks.mono _
      | exact entity_Find.mono _ _
      | exact LeO.none _
      | refine LeO.ite ?_ ?_
      | refine LeO.bind ?_ (fun _ => ?_)
    · intro y0 y1 y2 y3 y4 y5 y6
      unfold decanterlaw04_EntityPrefix.j1
      repeat' first
      | (with_reducible exact ih0 _ _ _)
      | (with_reducible exact ih1 _ _ _ _ _ _ _)
      | (with_reducible exact decanterlaw04_speaks.mono _)
      | (with_reducible exact entity_Find.mono _ _)
      | (with_reducible exact LeO.refl _)
      | (with_reducible exact LeO.none _)
      | (with_reducible refine LeO.ite ?_ ?_)
      | (with_reducible refine LeO.bind ?_ (fun _ => ?_))
      | exact ih0 _ _ _
      | exact ih1 _ _ _ _ _ _ _
      | exact decanterlaw04_speaks.mono _
      | exact entity_Find.mono _ _
      | exact LeO.none _
      | refine LeO.ite ?_ ?_
      | refine LeO.bind ?_ (fun _ => ?_)
theorem decanterlaw04_EntityPrefix.mono : ∀ a0 a1 k, LeO (decanterlaw04_EntityPrefix.f k a0 a1) (decanterlaw04_EntityPrefix.f (k + 1) a0 a1) := by
  intro a0 a1 k
  obtain ⟨ih0, ih1⟩ := decanterlaw04_EntityPrefix.mono_l k
  unfold decanterlaw04_EntityPrefix.f
  repeat' first
      | (with_reducible exact ih0 _ _ _)
      | (with_reducible exact ih1 _ _ _ _ _ _ _)
      | (with_reducible exact decanterlaw04_speaks.mono _)
      | (with_reducible exact entity_Find.mono _ _)
      | (with_reducible exact LeO.refl _)
      | (with_reducible exact LeO.none _)
      | (with_reducible refine LeO.ite ?_ ?_)
      | (with_reducible refine LeO.bind ?_ (fun _ => ?_))
      | exact ih0 _ _ _
      | exact ih1 _ _ _ _ _ _ _
      | exact decanterlaw04_speaks.mono _
      | exact entity_Find.mono _ _
      | exact LeO.none _
      | refine LeO.ite ?_ ?_
      | refine LeO.bind ?_ (fun _ => ?_)
set_option maxHeartbeats 8000000 in
set_option maxRecDepth 100000 in
theorem decanterlaw04_EntityPrefix.calls (k : Nat) (a0 : Int) (a1 : ByteArray) (r : Bool) (w : World) (hW : Wok w) (h : decanterlaw04_EntityPrefix.f k a0 a1 = some r) :
    Calls Tryd.prog 5 #[.int .u16 a0, .string a1] w fun e w' => e = .returned (.bool r) ∧ Below w.heap.size w w' := by
  have HB := Aside0.mk (Below.refl w.heap.size w)
  have H : ((decanterlaw04_speaks.f k).bind fun t107 => (if t107 = true then (decanterlaw04_EntityPrefix.j0 k a0 a1 (decide ((a1.size : Int) > 100))) else (decanterlaw04_EntityPrefix.j0 k a0 a1 true))) = some r := h
  clear h
  have HC3 := Aside0.mk H
  clear H
  go_enter Tryd.func5, Tryd.ntmps5
  go_upto_region 1 with (fail)
  go_cut [22] (fun v22 wc => ∃ (kq : Nat) (x22_2 : Bool), v22 = .bool x22_2 ∧ Aside0 (decanterlaw04_EntityPrefix.j0 kq a0 a1 x22_2 = some r) ∧ Aside0 (kq ≤ k) ∧ Aside0 (Below w.heap.size w wc))
  case first =>
    have H := HC3.out
    clear HC3
    replace H := Option.bind_eq_some_iff.mp H
    obtain ⟨t107, A40, H⟩ := H
    replace H : (if t107 = true then (decanterlaw04_EntityPrefix.j0 k a0 a1 (decide ((a1.size : Int) > 100))) else (decanterlaw04_EntityPrefix.j0 k a0 a1 true)) = some r := H
    have A4 := Aside0.mk A40
    clear A40
    by_cases c5 : t107 = true
    · subst c5
      have H1 : (decanterlaw04_EntityPrefix.j0 k a0 a1 (decide ((a1.size : Int) > 100))) = some r := by rw [if_pos rfl] at H; exact H
      clear H
      have H := H1
      clear H1
      have H' := Aside0.mk H
      clear H
      go_wp2_with (first | ((with_reducible refine gate_callee (f := 13) rfl ?_); refine goesL_ (some 16) rfl rfl Tryd.func13 (by kernel_rfl) rfl #[] rfl (by (try simp only [List.map_toArray, List.map_cons, List.map_nil]); first | done | rfl | (simp only [List.length_drop, List.length_take]; rfl)) ?_; (with_reducible refine (decanterlaw04_speaks.calls k  true _ (Wok_below hW (by repeat (first | (with_reducible first | exact HB.out | apply below_alloc | apply pw_below_drewN | apply below_drew1) | exact HB.out))) A4.out).mono ?_); rintro e w6 ⟨rfl, hb⟩; refine ⟨_, rfl, ?_⟩; have n0_ := Aside0.mk (below_step (by repeat (first | (with_reducible first | exact HB.out | apply below_alloc | apply pw_below_drewN | apply below_drew1) | exact HB.out)) hb); clear HB; have HB := n0_; clear n0_; (try clear hb); (try clear hb2); (try clear hk); (try clear hi)))
      go_meet
      case rel => exact ⟨_, (decide ((a1.size : Int) > 100)), (by first | rfl | (simp; done) | (simp [*]; done)), H', ⟨by first | omega | exact Nat.le_refl _⟩, ⟨by repeat (first | (with_reducible first | exact HB.out | apply below_alloc | apply pw_below_drewN | apply below_drew1) | exact HB.out)⟩⟩
    · replace c5 := Bool.eq_false_iff.mpr c5
      subst c5
      have H1 : (decanterlaw04_EntityPrefix.j0 k a0 a1 true) = some r := by rw [if_neg (show ¬ (false = true) by decide)] at H; exact H
      clear H
      have H := H1
      clear H1
      have H' := Aside0.mk H
      clear H
      go_wp2_with (first | ((with_reducible refine gate_callee (f := 13) rfl ?_); refine goesL_ (some 16) rfl rfl Tryd.func13 (by kernel_rfl) rfl #[] rfl (by (try simp only [List.map_toArray, List.map_cons, List.map_nil]); first | done | rfl | (simp only [List.length_drop, List.length_take]; rfl)) ?_; (with_reducible refine (decanterlaw04_speaks.calls k  false _ (Wok_below hW (by repeat (first | (with_reducible first | exact HB.out | apply below_alloc | apply pw_below_drewN | apply below_drew1) | exact HB.out))) A4.out).mono ?_); rintro e w7 ⟨rfl, hb⟩; refine ⟨_, rfl, ?_⟩; have n0_ := Aside0.mk (below_step (by repeat (first | (with_reducible first | exact HB.out | apply below_alloc | apply pw_below_drewN | apply below_drew1) | exact HB.out)) hb); clear HB; have HB := n0_; clear n0_; (try clear hb); (try clear hb2); (try clear hk); (try clear hi)))
      go_meet
      case rel => exact ⟨_, (true), (by first | rfl | (simp; done) | (simp [*]; done)), H', ⟨by first | omega | exact Nat.le_refl _⟩, ⟨by repeat (first | (with_reducible first | exact HB.out | apply below_alloc | apply pw_below_drewN | apply below_drew1) | exact HB.out)⟩⟩
  case rest =>
    clear HC3
    try clear c1
    try clear p2
    try clear c5
    obtain ⟨kq, x22_2, rfl, HA, HJ2, HB⟩ := hcut
    cases kq with
    | zero => exact absurd HA.out (by simp [decanterlaw04_EntityPrefix.j0])
    | succ kj2 =>
      have H := HA.out
      clear HA
      simp only [decanterlaw04_EntityPrefix.j0] at H
      by_cases c8 : x22_2 = true
      · subst c8
        have H1 : ((decanterlaw04_speaks.f kj2).bind fun t108 => (some t108)) = some r := by rw [if_pos rfl] at H; exact H
        clear H
        have H := H1
        clear H1
        replace H := Option.bind_eq_some_iff.mp H
        obtain ⟨t108, A90, H⟩ := H
        replace H : (some t108) = some r := H
        have A9 := Aside0.mk A90
        clear A90
        obtain rfl := Option.some.inj H
        go_wp2_with (first | ((with_reducible refine gate_callee (f := 13) rfl ?_); refine goesL_ (some 23) rfl rfl Tryd.func13 (by kernel_rfl) rfl #[] rfl (by (try simp only [List.map_toArray, List.map_cons, List.map_nil]); first | done | rfl | (simp only [List.length_drop, List.length_take]; rfl)) ?_; (with_reducible refine (decanterlaw04_speaks.calls kj2  t108 _ (Wok_below hW (by repeat (first | (with_reducible first | exact HB.out | apply below_alloc | apply pw_below_drewN | apply below_drew1) | exact HB.out))) A9.out).mono ?_); rintro e w10 ⟨rfl, hb⟩; refine ⟨_, rfl, ?_⟩; have n0_ := Aside0.mk (below_step (by repeat (first | (with_reducible first | exact HB.out | apply below_alloc | apply pw_below_drewN | apply below_drew1) | exact HB.out)) hb); clear HB; have HB := n0_; clear n0_; (try clear hb); (try clear hb2); (try clear hk); (try clear hi)))
        go_ret
        exact ⟨by first | rfl | (simp [errW_none, errW_some] <;> rfl) | (simp [*, errW_none, errW_some] <;> rfl), by repeat (first | (with_reducible first | exact HB.out | apply below_alloc | apply pw_below_drewN | apply below_drew1) | exact HB.out)⟩
      · replace c8 := Bool.eq_false_iff.mpr c8
        subst c8
        have H1 : ((entity_Names.f).bind fun t109 => (if (t109.length : Int) = 0 then (some false) else (if 0 ≤ (Int.tmod (wrap64 (a0)) (t109.length : Int)) then (if (Int.tmod (wrap64 (a0)) (t109.length : Int)) < (t109.length : Int) then (if (rdOf ByteArray.empty t109 (Int.tmod (wrap64 (a0)) (t109.length : Int))).size + a1.size ≤ 9223372036854775807 then ((entity_Find.f kj2 ((rdOf ByteArray.empty t109 (Int.tmod (wrap64 (a0)) (t109.length : Int))) ++ a1)).bind fun bt113 => ((entity_Find.f kj2 (rdOf ByteArray.empty t109 (Int.tmod (wrap64 (a0)) (t109.length : Int)))).bind fun bt115 => (if bt113.1 < ((rdOf ByteArray.empty t109 (Int.tmod (wrap64 (a0)) (t109.length : Int))).size : Int) then (decanterlaw04_EntityPrefix.j1 kj2 a1 (rdOf ByteArray.empty t109 (Int.tmod (wrap64 (a0)) (t109.length : Int))) bt113.1 bt113.2 bt115.1 bt115.2 true) else (if bt115.1 = ((rdOf ByteArray.empty t109 (Int.tmod (wrap64 (a0)) (t109.length : Int))).size : Int) then (if bt113.1 = bt115.1 then (decanterlaw04_EntityPrefix.j1 kj2 a1 (rdOf ByteArray.empty t109 (Int.tmod (wrap64 (a0)) (t109.length : Int))) bt113.1 bt113.2 bt115.1 bt115.2 (bt113.2.toList != bt115.2.toList)) else (decanterlaw04_EntityPrefix.j1 kj2 a1 (rdOf ByteArray.empty t109 (Int.tmod (wrap64 (a0)) (t109.length : Int))) bt113.1 bt113.2 bt115.1 bt115.2 false)) else (decanterlaw04_EntityPrefix.j1 kj2 a1 (rdOf ByteArray.empty t109 (Int.tmod (wrap64 (a0)) (t109.length : Int))) bt113.1 bt113.2 bt115.1 bt115.2 true))))) else (none)) else (none)) else (none)))) = some r := by rw [if_neg (show ¬ (false = true) by decide)] at H; exact H
        clear H
        have H := H1
        clear H1
        replace H := Option.bind_eq_some_iff.mp H
        obtain ⟨t109, A110, H⟩ := H
        replace H : (if (t109.length : Int) = 0 then (some false) else (if 0 ≤ (Int.tmod (wrap64 (a0)) (t109.length : Int)) then (if (Int.tmod (wrap64 (a0)) (t109.length : Int)) < (t109.length : Int) then (if (rdOf ByteArray.empty t109 (Int.tmod (wrap64 (a0)) (t109.length : Int))).size + a1.size ≤ 9223372036854775807 then ((entity_Find.f kj2 ((rdOf ByteArray.empty t109 (Int.tmod (wrap64 (a0)) (t109.length : Int))) ++ a1)).bind fun bt113 => ((entity_Find.f kj2 (rdOf ByteArray.empty t109 (Int.tmod (wrap64 (a0)) (t109.length : Int)))).bind fun bt115 => (if bt113.1 < ((rdOf ByteArray.empty t109 (Int.tmod (wrap64 (a0)) (t109.length : Int))).size : Int) then (decanterlaw04_EntityPrefix.j1 kj2 a1 (rdOf ByteArray.empty t109 (Int.tmod (wrap64 (a0)) (t109.length : Int))) bt113.1 bt113.2 bt115.1 bt115.2 true) else (if bt115.1 = ((rdOf ByteArray.empty t109 (Int.tmod (wrap64 (a0)) (t109.length : Int))).size : Int) then (if bt113.1 = bt115.1 then (decanterlaw04_EntityPrefix.j1 kj2 a1 (rdOf ByteArray.empty t109 (Int.tmod (wrap64 (a0)) (t109.length : Int))) bt113.1 bt113.2 bt115.1 bt115.2 (bt113.2.toList != bt115.2.toList)) else (decanterlaw04_EntityPrefix.j1 kj2 a1 (rdOf ByteArray.empty t109 (Int.tmod (wrap64 (a0)) (t109.length : Int))) bt113.1 bt113.2 bt115.1 bt115.2 false)) else (decanterlaw04_EntityPrefix.j1 kj2 a1 (rdOf ByteArray.empty t109 (Int.tmod (wrap64 (a0)) (t109.length : Int))) bt113.1 bt113.2 bt115.1 bt115.2 true))))) else (none)) else (none)) else (none))) = some r := H
        have A11 := Aside0.mk A110
        clear A110
        by_cases c12 : (t109.length : Int) = 0
        · rw [if_pos c12] at H
          have c12b0 : ((t109.length : Int) == 0) = true := beq_iff_eq.mpr c12
          have c12b1 : ((t109.length : Int) != 0) = false := bne_eq_false_iff_eq.mpr c12
          clear c12
          obtain rfl := Option.some.inj H
          go_wp2_with (first | ((with_reducible refine gate_callee (f := 17) rfl ?_); refine goesL_ (some 24) rfl rfl Tryd.func17 (by kernel_rfl) rfl #[] rfl (by (try simp only [List.map_toArray, List.map_cons, List.map_nil]); first | done | rfl | (simp only [List.length_drop, List.length_take]; rfl)) ?_; (with_reducible refine (entity_Names.calls  t109 _ (Wok_below hW (by repeat (first | (with_reducible first | exact HB.out | apply below_alloc | apply pw_below_drewN | apply below_drew1) | exact HB.out))) A11.out).mono ?_); rintro e w13 ⟨v110, rfl, ho0, hb⟩; refine ⟨_, rfl, ?_⟩; have n0_ := Aside0.mk (Kd.R_lower ho0 (below_size (by repeat (first | (with_reducible first | exact HB.out | apply below_alloc | apply pw_below_drewN | apply below_drew1) | exact HB.out)))); have n1_ := Aside0.mk (below_step (by repeat (first | (with_reducible first | exact HB.out | apply below_alloc | apply pw_below_drewN | apply below_drew1) | exact HB.out)) hb); clear HB; have HO111 := n0_; have HB := n1_; clear n0_ n1_; (try clear hb); (try clear hb2); (try clear hk); (try clear hi); (try clear ho0); obtain ⟨Ao14, co14, eo14⟩ := Kd.R_slice HO111.out; subst eo14))
          go_ret
          exact ⟨by first | rfl | (simp [errW_none, errW_some] <;> rfl) | (simp [*, errW_none, errW_some] <;> rfl), by repeat (first | (with_reducible first | exact HB.out | apply below_alloc | apply pw_below_drewN | apply below_drew1) | exact HB.out)⟩
        · rw [if_neg c12] at H
          have c12b0 : ((t109.length : Int) == 0) = false := beq_eq_false_iff_ne.mpr c12
          have c12b1 : ((t109.length : Int) != 0) = true := bne_iff_ne.mpr c12
          have c12b2 : ¬ (t109 = []) := fun h_ => c12 (by rw [h_]; rfl)
          obtain ⟨ji15, hji15⟩ : ∃ j_ : Int, (Int.tmod (wrap64 (a0)) (t109.length : Int)) = j_ := ⟨_, rfl⟩
          replace H : (if 0 ≤ (ji15) then (if (ji15) < (t109.length : Int) then (if (rdOf ByteArray.empty t109 (ji15)).size + a1.size ≤ 9223372036854775807 then ((entity_Find.f kj2 ((rdOf ByteArray.empty t109 (ji15)) ++ a1)).bind fun bt113 => ((entity_Find.f kj2 (rdOf ByteArray.empty t109 (ji15))).bind fun bt115 => (if bt113.1 < ((rdOf ByteArray.empty t109 (ji15)).size : Int) then (decanterlaw04_EntityPrefix.j1 kj2 a1 (rdOf ByteArray.empty t109 (ji15)) bt113.1 bt113.2 bt115.1 bt115.2 true) else (if bt115.1 = ((rdOf ByteArray.empty t109 (ji15)).size : Int) then (if bt113.1 = bt115.1 then (decanterlaw04_EntityPrefix.j1 kj2 a1 (rdOf ByteArray.empty t109 (ji15)) bt113.1 bt113.2 bt115.1 bt115.2 (bt113.2.toList != bt115.2.toList)) else (decanterlaw04_EntityPrefix.j1 kj2 a1 (rdOf ByteArray.empty t109 (ji15)) bt113.1 bt113.2 bt115.1 bt115.2 false)) else (decanterlaw04_EntityPrefix.j1 kj2 a1 (rdOf ByteArray.empty t109 (ji15)) bt113.1 bt113.2 bt115.1 bt115.2 true))))) else (none)) else (none)) else (none)) = some r := by first | (rw [hji15] at H; exact H) | (simp only [hji15] at H ⊢; exact H)
          (try rw [hji15] at A11)
          by_cases c16 : 0 ≤ (ji15)
          · rw [if_pos c16] at H
            have c16b0 : decide (0 ≤ (ji15)) = true := decide_eq_true c16
            clear c16
            by_cases c17 : (ji15) < (t109.length : Int)
            · rw [if_pos c17] at H
              have c17b0 : decide ((ji15) < (t109.length : Int)) = true := decide_eq_true c17
              clear c17
              by_cases c18 : (rdOf ByteArray.empty t109 (ji15)).size + a1.size ≤ 9223372036854775807
              · rw [if_pos c18] at H
                have c18b0 := eq_true c18
                have c18b1 : decide ((rdOf ByteArray.empty t109 (ji15)).size + a1.size ≤ 9223372036854775807) = true := decide_eq_true c18
                try have c18b2 : (9223372036854775807 < (rdOf ByteArray.empty t109 (ji15)).size + a1.size) = False := eq_false (Nat.not_lt.2 c18)
                replace H := Option.bind_eq_some_iff.mp H
                obtain ⟨⟨t113, t114⟩, A190, H⟩ := H
                replace H : ((entity_Find.f kj2 (rdOf ByteArray.empty t109 (ji15))).bind fun bt115 => (if t113 < ((rdOf ByteArray.empty t109 (ji15)).size : Int) then (decanterlaw04_EntityPrefix.j1 kj2 a1 (rdOf ByteArray.empty t109 (ji15)) t113 t114 bt115.1 bt115.2 true) else (if bt115.1 = ((rdOf ByteArray.empty t109 (ji15)).size : Int) then (if t113 = bt115.1 then (decanterlaw04_EntityPrefix.j1 kj2 a1 (rdOf ByteArray.empty t109 (ji15)) t113 t114 bt115.1 bt115.2 (t114.toList != bt115.2.toList)) else (decanterlaw04_EntityPrefix.j1 kj2 a1 (rdOf ByteArray.empty t109 (ji15)) t113 t114 bt115.1 bt115.2 false)) else (decanterlaw04_EntityPrefix.j1 kj2 a1 (rdOf ByteArray.empty t109 (ji15)) t113 t114 bt115.1 bt115.2 true)))) = some r := H
                have A19 := Aside0.mk A190
                clear A190
                replace H := Option.bind_eq_some_iff.mp H
                obtain ⟨⟨t115, t116⟩, A200, H⟩ := H
                replace H : (if t113 < ((rdOf ByteArray.empty t109 (ji15)).size : Int) then (decanterlaw04_EntityPrefix.j1 kj2 a1 (rdOf ByteArray.empty t109 (ji15)) t113 t114 t115 t116 true) else (if t115 = ((rdOf ByteArray.empty t109 (ji15)).size : Int) then (if t113 = t115 then (decanterlaw04_EntityPrefix.j1 kj2 a1 (rdOf ByteArray.empty t109 (ji15)) t113 t114 t115 t116 (t114.toList != t116.toList)) else (decanterlaw04_EntityPrefix.j1 kj2 a1 (rdOf ByteArray.empty t109 (ji15)) t113 t114 t115 t116 false)) else (decanterlaw04_EntityPrefix.j1 kj2 a1 (rdOf ByteArray.empty t109 (ji15)) t113 t114 t115 t116 true))) = some r := H
                have A20 := Aside0.mk A200
                clear A200
                have HC21 := Aside0.mk H
                clear H
                go_upto_region 9 with (first | ((with_reducible refine gate_callee (f := 17) rfl ?_); refine goesL_ (some 24) rfl rfl Tryd.func17 (by kernel_rfl) rfl #[] rfl (by (try simp only [List.map_toArray, List.map_cons, List.map_nil]); first | done | rfl | (simp only [List.length_drop, List.length_take]; rfl)) ?_; (with_reducible refine (entity_Names.calls  t109 _ (Wok_below hW (by repeat (first | (with_reducible first | exact HB.out | apply below_alloc | apply pw_below_drewN | apply below_drew1) | exact HB.out))) A11.out).mono ?_); rintro e w22 ⟨v110, rfl, ho0, hb⟩; refine ⟨_, rfl, ?_⟩; have n0_ := Aside0.mk (Kd.R_lower ho0 (below_size (by repeat (first | (with_reducible first | exact HB.out | apply below_alloc | apply pw_below_drewN | apply below_drew1) | exact HB.out)))); have n1_ := Aside0.mk (below_step (by repeat (first | (with_reducible first | exact HB.out | apply below_alloc | apply pw_below_drewN | apply below_drew1) | exact HB.out)) hb); clear HB; have HO111 := n0_; have HB := n1_; clear n0_ n1_; (try clear hb); (try clear hb2); (try clear hk); (try clear hi); (try clear ho0); obtain ⟨Ao23, co23, eo23⟩ := Kd.R_slice HO111.out; subst eo23; have p112 : 0 ≤ ((ji15) : Int) := of_decide_eq_true (by first | (with_reducible assumption) | assumption); have q112 : (ji15) < (t109.length : Int) := of_decide_eq_true (by first | (with_reducible assumption) | assumption); obtain ⟨ad112, e112, hx112_0⟩ := Kd.at_string (Kd.R_reads' HO111.out).2.2 (ji15) p112 q112; cases e112; replace p112 := eq_true p112; replace q112 := eq_true q112) | ((with_reducible refine gate_callee (f := 14) rfl ?_); refine goesL_ (some 40) rfl rfl Tryd.func14 (by kernel_rfl) rfl #[.string ((rdOf ByteArray.empty t109 (ji15)) ++ a1)] rfl (by (try simp only [List.map_toArray, List.map_cons, List.map_nil]); first | done | (simp only [hji15]; rfl) | rfl | (simp only [List.length_drop, List.length_take]; rfl)) ?_; (with_reducible refine (entity_Find.calls kj2 ((rdOf ByteArray.empty t109 (ji15)) ++ a1) t113 t114 _ (Wok_below hW (by repeat (first | (with_reducible first | exact HB.out | apply below_alloc | apply pw_below_drewN | apply below_drew1) | exact HB.out))) A19.out).mono ?_); rintro e w24 ⟨rfl, hb⟩; refine ⟨_, rfl, ?_⟩; have n0_ := Aside0.mk (Kd.R_below (by (with_reducible repeat (first | apply Kd.R_alloc | apply Kd.R_drewN | apply Kd.R_drew)); exact HO111.out) hb); have n1_ := Aside0.mk (below_step (by repeat (first | (with_reducible first | exact HB.out | apply below_alloc | apply pw_below_drewN | apply below_drew1) | exact HB.out)) hb); clear HO111; clear HB; have HO111 := n0_; have HB := n1_; clear n0_ n1_; (try clear hb); (try clear hb2); (try clear hk); (try clear hi)) | ((with_reducible refine gate_callee (f := 14) rfl ?_); refine goesL_ (some 45) rfl rfl Tryd.func14 (by kernel_rfl) rfl #[.string (rdOf ByteArray.empty t109 (ji15))] rfl (by (try simp only [List.map_toArray, List.map_cons, List.map_nil]); first | done | (simp only [hji15]; rfl) | rfl | (simp only [List.length_drop, List.length_take]; rfl)) ?_; (with_reducible refine (entity_Find.calls kj2 (rdOf ByteArray.empty t109 (ji15)) t115 t116 _ (Wok_below hW (by repeat (first | (with_reducible first | exact HB.out | apply below_alloc | apply pw_below_drewN | apply below_drew1) | exact HB.out))) A20.out).mono ?_); rintro e w25 ⟨rfl, hb⟩; refine ⟨_, rfl, ?_⟩; have n0_ := Aside0.mk (Kd.R_below (by (with_reducible repeat (first | apply Kd.R_alloc | apply Kd.R_drewN | apply Kd.R_drew)); exact HO111.out) hb); have n1_ := Aside0.mk (below_step (by repeat (first | (with_reducible first | exact HB.out | apply below_alloc | apply pw_below_drewN | apply below_drew1) | exact HB.out)) hb); clear HO111; clear HB; have HO111 := n0_; have HB := n1_; clear n0_ n1_; (try clear hb); (try clear hb2); (try clear hk); (try clear hi)))
                (try simp only [Act.put, List.setIfInBounds_toArray, List.set_cons_zero, List.set_cons_succ])
                go_cut [67] (fun v67 wc => ∃ (kq : Nat) (x67_20 : Bool), v67 = .bool x67_20 ∧ Aside0 (decanterlaw04_EntityPrefix.j1 kq a1 (rdOf ByteArray.empty t109 (ji15)) t113 t114 t115 t116 x67_20 = some r) ∧ Aside0 (kq ≤ kj2) ∧ Aside0 (Below w.heap.size w wc))
                case first =>
                  have H := HC21.out
                  clear HC21
                  by_cases c26 : t113 < ((rdOf ByteArray.empty t109 (ji15)).size : Int)
                  · rw [if_pos c26] at H
                    have c26b0 : decide (t113 < ((rdOf ByteArray.empty t109 (ji15)).size : Int)) = true := decide_eq_true c26
                    clear c26
                    (first | rw [c26b0] | (simp only [i64_w, i32_w]; rw [c26b0]) | skip)
                    have H' := Aside0.mk H
                    clear H
                    go_wp2
                    go_meet
                    case rel => exact ⟨_, (true), (by first | rfl | (simp; done) | (simp [*]; done)), H', ⟨by have := HJ2.out; first | omega | exact Nat.le_refl _⟩, ⟨by repeat (first | (with_reducible first | exact HB.out | apply below_alloc | apply pw_below_drewN | apply below_drew1) | exact HB.out)⟩⟩
                  · rw [if_neg c26] at H
                    have c26b0 : decide (t113 < ((rdOf ByteArray.empty t109 (ji15)).size : Int)) = false := decide_eq_false c26
                    clear c26
                    (first | rw [c26b0] | (simp only [i64_w, i32_w]; rw [c26b0]) | skip)
                    by_cases c27 : t115 = ((rdOf ByteArray.empty t109 (ji15)).size : Int)
                    · rw [if_pos c27] at H
                      have c27b0 : (t115 == ((rdOf ByteArray.empty t109 (ji15)).size : Int)) = true := beq_iff_eq.mpr c27
                      have c27b1 : (t115 != ((rdOf ByteArray.empty t109 (ji15)).size : Int)) = false := bne_eq_false_iff_eq.mpr c27
                      clear c27
                      by_cases c28 : t113 = t115
                      · rw [if_pos c28] at H
                        have c28b0 : (t113 == t115) = true := beq_iff_eq.mpr c28
                        have c28b1 : (t113 != t115) = false := bne_eq_false_iff_eq.mpr c28
                        clear c28
                        have H' := Aside0.mk H
                        clear H
                        go_wp2
                        go_meet
                        case rel => exact ⟨_, ((t114.toList != t116.toList)), (by first | rfl | (simp; done) | (simp [*]; done)), H', ⟨by have := HJ2.out; first | omega | exact Nat.le_refl _⟩, ⟨by repeat (first | (with_reducible first | exact HB.out | apply below_alloc | apply pw_below_drewN | apply below_drew1) | exact HB.out)⟩⟩
                      · rw [if_neg c28] at H
                        have c28b0 : (t113 == t115) = false := beq_eq_false_iff_ne.mpr c28
                        have c28b1 : (t113 != t115) = true := bne_iff_ne.mpr c28
                        have H' := Aside0.mk H
                        clear H
                        go_wp2
                        go_meet
                        case rel => exact ⟨_, (false), (by first | rfl | (simp; done) | (simp [*]; done)), H', ⟨by have := HJ2.out; first | omega | exact Nat.le_refl _⟩, ⟨by repeat (first | (with_reducible first | exact HB.out | apply below_alloc | apply pw_below_drewN | apply below_drew1) | exact HB.out)⟩⟩
                    · rw [if_neg c27] at H
                      have c27b0 : (t115 == ((rdOf ByteArray.empty t109 (ji15)).size : Int)) = false := beq_eq_false_iff_ne.mpr c27
                      have c27b1 : (t115 != ((rdOf ByteArray.empty t109 (ji15)).size : Int)) = true := bne_iff_ne.mpr c27
                      have H' := Aside0.mk H
                      clear H
                      go_wp2
                      go_meet
                      case rel => exact ⟨_, (true), (by first | rfl | (simp; done) | (simp [*]; done)), H', ⟨by have := HJ2.out; first | omega | exact Nat.le_refl _⟩, ⟨by repeat (first | (with_reducible first | exact HB.out | apply below_alloc | apply pw_below_drewN | apply below_drew1) | exact HB.out)⟩⟩
                case rest =>
                  clear HC21
                  try clear c1
                  try clear p1
                  try clear q1
                  try clear hx1
                  try clear c2
                  try clear p2
                  try clear c5
                  try clear p6
                  try clear c8
                  try clear p11
                  try clear q11
                  try clear hx11
                  try clear c12
                  try clear c12b0
                  try clear c12b1
                  try clear c12b2
                  try clear c13
                  try clear c14
                  try clear c16
                  try clear c16b0
                  try clear c17
                  try clear c17b0
                  try clear c18
                  try clear c18b0
                  try clear c18b1
                  try clear c18b2
                  try clear c26
                  try clear c26b0
                  try clear c27
                  try clear c27b0
                  try clear c27b1
                  try clear c28
                  try clear c28b0
                  try clear c28b1
                  try clear hx112_0
                  try clear p112
                  try clear p2
                  try clear q112
                  obtain ⟨kq, x67_20, rfl, HA, HJ20, HB⟩ := hcut
                  cases kq with
                  | zero => exact absurd HA.out (by simp [decanterlaw04_EntityPrefix.j1])
                  | succ kj20 =>
                    have H := HA.out
                    clear HA
                    simp only [decanterlaw04_EntityPrefix.j1] at H
                    by_cases c29 : x67_20 = true
                    · subst c29
                      have H1 : (some false) = some r := by rw [if_pos rfl] at H; exact H
                      clear H
                      have H := H1
                      clear H1
                      obtain rfl := Option.some.inj H
                      go_wp2
                      go_ret
                      exact ⟨by first | rfl | (simp [errW_none, errW_some] <;> rfl) | (simp only [← hji15]; first | rfl | (simp [errW_none, errW_some] <;> rfl)) | (simp [*, errW_none, errW_some] <;> rfl), by repeat (first | (with_reducible first | exact HB.out | apply below_alloc | apply pw_below_drewN | apply below_drew1) | exact HB.out)⟩
                    · replace c29 := Bool.eq_false_iff.mpr c29
                      subst c29
                      have H1 : (if t113 > t115 then (if (rdOf ByteArray.empty t109 (ji15)).size + a1.size ≤ 9223372036854775807 then (if 0 ≤ t113 then (if t113 ≤ (((rdOf ByteArray.empty t109 (ji15)) ++ a1).size : Int) then ((entity_Find.f kj20 (((rdOf ByteArray.empty t109 (ji15)) ++ a1).extract 0 (t113 : Int).toNat)).bind fun bt117 => (if bt117.1 = t113 then (some (bt117.2.toList == t114.toList)) else (some false))) else (none)) else (none)) else (none)) else (if (rdOf ByteArray.empty t109 (ji15)).size + 1 ≤ 9223372036854775807 then ((entity_Find.f kj20 ((rdOf ByteArray.empty t109 (ji15)) ++ (⟨#[59]⟩ : ByteArray))).bind fun bt119 => (if 0 ≤ (wrap64 (((rdOf ByteArray.empty t109 (ji15)).size : Int) - 1)) then (if (wrap64 (((rdOf ByteArray.empty t109 (ji15)).size : Int) - 1)) < ((rdOf ByteArray.empty t109 (ji15)).size : Int) then (if (bt (rdOf ByteArray.empty t109 (ji15)) (wrap64 (((rdOf ByteArray.empty t109 (ji15)).size : Int) - 1))) = 59 then (some true) else (if bt119.1 = (wrap64 (t115 + 1)) then (some (bt119.2.toList == t116.toList)) else (some false))) else (none)) else (none))) else (none))) = some r := by rw [if_neg (show ¬ (false = true) by decide)] at H; exact H
                      clear H
                      have H := H1
                      clear H1
                      by_cases c30 : t113 > t115
                      · rw [if_pos c30] at H
                        have c30b0 : decide (t115 < t113) = true := decide_eq_true c30
                        clear c30
                        by_cases c31 : (rdOf ByteArray.empty t109 (ji15)).size + a1.size ≤ 9223372036854775807
                        · rw [if_pos c31] at H
                          have c31b0 := eq_true c31
                          have c31b1 : decide ((rdOf ByteArray.empty t109 (ji15)).size + a1.size ≤ 9223372036854775807) = true := decide_eq_true c31
                          try have c31b2 : (9223372036854775807 < (rdOf ByteArray.empty t109 (ji15)).size + a1.size) = False := eq_false (Nat.not_lt.2 c31)
                          by_cases c32 : 0 ≤ t113
                          · rw [if_pos c32] at H
                            have c32b0 := eq_true c32
                            have c32b1 : decide (0 ≤ t113) = true := decide_eq_true c32
                            clear c32
                            by_cases c33 : t113 ≤ (((rdOf ByteArray.empty t109 (ji15)) ++ a1).size : Int)
                            · rw [if_pos c33] at H
                              have c33s := c33
                              simp only [ByteArray.size_append, Int.natCast_add] at c33s
                              have c33t := decide_eq_true c33s
                              have c33u := eq_true c33s
                              have c33b0 := eq_true c33
                              have c33b1 : decide (t113 ≤ (((rdOf ByteArray.empty t109 (ji15)) ++ a1).size : Int)) = true := decide_eq_true c33
                              replace H := Option.bind_eq_some_iff.mp H
                              obtain ⟨⟨t117, t118⟩, A340, H⟩ := H
                              replace H : (if t117 = t113 then (some (t118.toList == t114.toList)) else (some false)) = some r := H
                              have A34 := Aside0.mk A340
                              clear A340
                              by_cases c35 : t117 = t113
                              · rw [if_pos c35] at H
                                have c35b0 : (t117 == t113) = true := beq_iff_eq.mpr c35
                                have c35b1 : (t117 != t113) = false := bne_eq_false_iff_eq.mpr c35
                                clear c35
                                obtain rfl := Option.some.inj H
                                go_wp2_with (first | ((with_reducible refine gate_callee (f := 14) rfl ?_); refine goesL_ (some 78) rfl rfl Tryd.func14 (by kernel_rfl) rfl #[.string (((rdOf ByteArray.empty t109 (ji15)) ++ a1).extract 0 (t113 : Int).toNat)] rfl (by (try simp only [List.map_toArray, List.map_cons, List.map_nil]); first | done | (simp only [hji15]; rfl) | rfl | (simp only [List.length_drop, List.length_take]; rfl)) ?_; (with_reducible refine (entity_Find.calls kj20 (((rdOf ByteArray.empty t109 (ji15)) ++ a1).extract 0 (t113 : Int).toNat) t117 t118 _ (Wok_below hW (by repeat (first | (with_reducible first | exact HB.out | apply below_alloc | apply pw_below_drewN | apply below_drew1) | exact HB.out))) A34.out).mono ?_); rintro e w36 ⟨rfl, hb⟩; refine ⟨_, rfl, ?_⟩; have n0_ := Aside0.mk (below_step (by repeat (first | (with_reducible first | exact HB.out | apply below_alloc | apply pw_below_drewN | apply below_drew1) | exact HB.out)) hb); clear HB; have HB := n0_; clear n0_; (try clear hb); (try clear hb2); (try clear hk); (try clear hi)))
                                go_ret
                                exact ⟨by first | rfl | (simp [errW_none, errW_some] <;> rfl) | (simp only [← hji15]; first | rfl | (simp [errW_none, errW_some] <;> rfl)) | (simp [*, errW_none, errW_some] <;> rfl), by repeat (first | (with_reducible first | exact HB.out | apply below_alloc | apply pw_below_drewN | apply below_drew1) | exact HB.out)⟩
                              · rw [if_neg c35] at H
                                have c35b0 : (t117 == t113) = false := beq_eq_false_iff_ne.mpr c35
                                have c35b1 : (t117 != t113) = true := bne_iff_ne.mpr c35
                                obtain rfl := Option.some.inj H
                                go_wp2_with (first | ((with_reducible refine gate_callee (f := 14) rfl ?_); refine goesL_ (some 78) rfl rfl Tryd.func14 (by kernel_rfl) rfl #[.string (((rdOf ByteArray.empty t109 (ji15)) ++ a1).extract 0 (t113 : Int).toNat)] rfl (by (try simp only [List.map_toArray, List.map_cons, List.map_nil]); first | done | (simp only [hji15]; rfl) | rfl | (simp only [List.length_drop, List.length_take]; rfl)) ?_; (with_reducible refine (entity_Find.calls kj20 (((rdOf ByteArray.empty t109 (ji15)) ++ a1).extract 0 (t113 : Int).toNat) t117 t118 _ (Wok_below hW (by repeat (first | (with_reducible first | exact HB.out | apply below_alloc | apply pw_below_drewN | apply below_drew1) | exact HB.out))) A34.out).mono ?_); rintro e w37 ⟨rfl, hb⟩; refine ⟨_, rfl, ?_⟩; have n0_ := Aside0.mk (below_step (by repeat (first | (with_reducible first | exact HB.out | apply below_alloc | apply pw_below_drewN | apply below_drew1) | exact HB.out)) hb); clear HB; have HB := n0_; clear n0_; (try clear hb); (try clear hb2); (try clear hk); (try clear hi)))
                                go_ret
                                exact ⟨by first | rfl | (simp [errW_none, errW_some] <;> rfl) | (simp only [← hji15]; first | rfl | (simp [errW_none, errW_some] <;> rfl)) | (simp [*, errW_none, errW_some] <;> rfl), by repeat (first | (with_reducible first | exact HB.out | apply below_alloc | apply pw_below_drewN | apply below_drew1) | exact HB.out)⟩
                            · rw [if_neg c33] at H
                              exact absurd H (by simp)
                          · rw [if_neg c32] at H
                            exact absurd H (by simp)
                        · rw [if_neg c31] at H
                          exact absurd H (by simp)
                      · rw [if_neg c30] at H
                        have c30b0 : decide (t115 < t113) = false := decide_eq_false c30
                        clear c30
                        by_cases c38 : (rdOf ByteArray.empty t109 (ji15)).size + 1 ≤ 9223372036854775807
                        · rw [if_pos c38] at H
                          have c38b0 := eq_true c38
                          have c38b1 : decide ((rdOf ByteArray.empty t109 (ji15)).size + 1 ≤ 9223372036854775807) = true := decide_eq_true c38
                          try have c38b2 : (9223372036854775807 < (rdOf ByteArray.empty t109 (ji15)).size + 1) = False := eq_false (Nat.not_lt.2 c38)
                          replace H := Option.bind_eq_some_iff.mp H
                          obtain ⟨⟨t119, t120⟩, A390, H⟩ := H
                          replace H : (if 0 ≤ (wrap64 (((rdOf ByteArray.empty t109 (ji15)).size : Int) - 1)) then (if (wrap64 (((rdOf ByteArray.empty t109 (ji15)).size : Int) - 1)) < ((rdOf ByteArray.empty t109 (ji15)).size : Int) then (if (bt (rdOf ByteArray.empty t109 (ji15)) (wrap64 (((rdOf ByteArray.empty t109 (ji15)).size : Int) - 1))) = 59 then (some true) else (if t119 = (wrap64 (t115 + 1)) then (some (t120.toList == t116.toList)) else (some false))) else (none)) else (none)) = some r := H
                          have A39 := Aside0.mk A390
                          clear A390
                          obtain ⟨ji40, hji40⟩ : ∃ j_ : Int, (wrap64 (((rdOf ByteArray.empty t109 (ji15)).size : Int) - 1)) = j_ := ⟨_, rfl⟩
                          replace H : (if 0 ≤ (ji40) then (if (ji40) < ((rdOf ByteArray.empty t109 (ji15)).size : Int) then (if (bt (rdOf ByteArray.empty t109 (ji15)) (ji40)) = 59 then (some true) else (if t119 = (wrap64 (t115 + 1)) then (some (t120.toList == t116.toList)) else (some false))) else (none)) else (none)) = some r := by first | (rw [hji40] at H; exact H) | (simp only [hji40] at H ⊢; exact H)
                          (try rw [hji40] at A39)
                          have hji40w : (IntKind.i64.wrap (((rdOf ByteArray.empty t109 (ji15)).size : Int) - 1)) = ji40 := (i64_w _).trans hji40
                          by_cases c41 : 0 ≤ (ji40)
                          · rw [if_pos c41] at H
                            have c41b0 : decide (0 ≤ (ji40)) = true := decide_eq_true c41
                            clear c41
                            by_cases c42 : (ji40) < ((rdOf ByteArray.empty t109 (ji15)).size : Int)
                            · rw [if_pos c42] at H
                              have c42b0 : decide ((ji40) < ((rdOf ByteArray.empty t109 (ji15)).size : Int)) = true := decide_eq_true c42
                              clear c42
                              by_cases c44 : (bt (rdOf ByteArray.empty t109 (ji15)) (ji40)) = 59
                              · rw [if_pos c44] at H
                                have c44b0 : ((bt (rdOf ByteArray.empty t109 (ji15)) (ji40)) == 59) = true := beq_iff_eq.mpr c44
                                have c44b1 : ((bt (rdOf ByteArray.empty t109 (ji15)) (ji40)) != 59) = false := bne_eq_false_iff_eq.mpr c44
                                clear c44
                                obtain rfl := Option.some.inj H
                                go_wp2_with (first | ((with_reducible refine gate_callee (f := 14) rfl ?_); refine goesL_ (some 92) rfl rfl Tryd.func14 (by kernel_rfl) rfl #[.string ((rdOf ByteArray.empty t109 (ji15)) ++ (⟨#[59]⟩ : ByteArray))] rfl (by (try simp only [List.map_toArray, List.map_cons, List.map_nil]); first | done | (simp only [hji15]; rfl) | rfl | (simp only [List.length_drop, List.length_take]; rfl)) ?_; (with_reducible refine (entity_Find.calls kj20 ((rdOf ByteArray.empty t109 (ji15)) ++ (⟨#[59]⟩ : ByteArray)) t119 t120 _ (Wok_below hW (by repeat (first | (with_reducible first | exact HB.out | apply below_alloc | apply pw_below_drewN | apply below_drew1) | exact HB.out))) A39.out).mono ?_); rintro e w45 ⟨rfl, hb⟩; refine ⟨_, rfl, ?_⟩; have n0_ := Aside0.mk (below_step (by repeat (first | (with_reducible first | exact HB.out | apply below_alloc | apply pw_below_drewN | apply below_drew1) | exact HB.out)) hb); clear HB; have HB := n0_; clear n0_; (try clear hb); (try clear hb2); (try clear hk); (try clear hi); have p43 : 0 ≤ ((ji40) : Int) := of_decide_eq_true (by first | (with_reducible assumption) | assumption); have q43 : (ji40) < ((rdOf ByteArray.empty t109 (ji15)).size : Int) := of_decide_eq_true (by first | (with_reducible assumption) | assumption); have hx43 := bt_at (rdOf ByteArray.empty t109 (ji15)) (ji40); replace p43 := eq_true p43; replace q43 := eq_true q43))
                                go_ret
                                exact ⟨by first | rfl | (simp [errW_none, errW_some] <;> rfl) | (simp only [← hji15, ← hji40]; first | rfl | (simp [errW_none, errW_some] <;> rfl)) | (simp [*, errW_none, errW_some] <;> rfl), by repeat (first | (with_reducible first | exact HB.out | apply below_alloc | apply pw_below_drewN | apply below_drew1) | exact HB.out)⟩
                              · rw [if_neg c44] at H
                                have c44b0 : ((bt (rdOf ByteArray.empty t109 (ji15)) (ji40)) == 59) = false := beq_eq_false_iff_ne.mpr c44
                                have c44b1 : ((bt (rdOf ByteArray.empty t109 (ji15)) (ji40)) != 59) = true := bne_iff_ne.mpr c44
                                by_cases c46 : t119 = (wrap64 (t115 + 1))
                                · rw [if_pos c46] at H
                                  have c46b0 : (t119 == (wrap64 (t115 + 1))) = true := beq_iff_eq.mpr c46
                                  have c46b1 : (t119 != (wrap64 (t115 + 1))) = false := bne_eq_false_iff_eq.mpr c46
                                  clear c46
                                  obtain rfl := Option.some.inj H
                                  go_wp2_with (first | ((with_reducible refine gate_callee (f := 14) rfl ?_); refine goesL_ (some 92) rfl rfl Tryd.func14 (by kernel_rfl) rfl #[.string ((rdOf ByteArray.empty t109 (ji15)) ++ (⟨#[59]⟩ : ByteArray))] rfl (by (try simp only [List.map_toArray, List.map_cons, List.map_nil]); first | done | (simp only [hji15]; rfl) | rfl | (simp only [List.length_drop, List.length_take]; rfl)) ?_; (with_reducible refine (entity_Find.calls kj20 ((rdOf ByteArray.empty t109 (ji15)) ++ (⟨#[59]⟩ : ByteArray)) t119 t120 _ (Wok_below hW (by repeat (first | (with_reducible first | exact HB.out | apply below_alloc | apply pw_below_drewN | apply below_drew1) | exact HB.out))) A39.out).mono ?_); rintro e w47 ⟨rfl, hb⟩; refine ⟨_, rfl, ?_⟩; have n0_ := Aside0.mk (below_step (by repeat (first | (with_reducible first | exact HB.out | apply below_alloc | apply pw_below_drewN | apply below_drew1) | exact HB.out)) hb); clear HB; have HB := n0_; clear n0_; (try clear hb); (try clear hb2); (try clear hk); (try clear hi); have p43 : 0 ≤ ((ji40) : Int) := of_decide_eq_true (by first | (with_reducible assumption) | assumption); have q43 : (ji40) < ((rdOf ByteArray.empty t109 (ji15)).size : Int) := of_decide_eq_true (by first | (with_reducible assumption) | assumption); have hx43 := bt_at (rdOf ByteArray.empty t109 (ji15)) (ji40); replace p43 := eq_true p43; replace q43 := eq_true q43))
                                  go_ret
                                  exact ⟨by first | rfl | (simp [errW_none, errW_some] <;> rfl) | (simp only [← hji15, ← hji40]; first | rfl | (simp [errW_none, errW_some] <;> rfl)) | (simp [*, errW_none, errW_some] <;> rfl), by repeat (first | (with_reducible first | exact HB.out | apply below_alloc | apply pw_below_drewN | apply below_drew1) | exact HB.out)⟩
                                · rw [if_neg c46] at H
                                  have c46b0 : (t119 == (wrap64 (t115 + 1))) = false := beq_eq_false_iff_ne.mpr c46
                                  have c46b1 : (t119 != (wrap64 (t115 + 1))) = true := bne_iff_ne.mpr c46
                                  obtain rfl := Option.some.inj H
                                  go_wp2_with (first | ((with_reducible refine gate_callee (f := 14) rfl ?_); refine goesL_ (some 92) rfl rfl Tryd.func14 (by kernel_rfl) rfl #[.string ((rdOf ByteArray.empty t109 (ji15)) ++ (⟨#[59]⟩ : ByteArray))] rfl (by (try simp only [List.map_toArray, List.map_cons, List.map_nil]); first | done | (simp only [hji15]; rfl) | rfl | (simp only [List.length_drop, List.length_take]; rfl)) ?_; (with_reducible refine (entity_Find.calls kj20 ((rdOf ByteArray.empty t109 (ji15)) ++ (⟨#[59]⟩ : ByteArray)) t119 t120 _ (Wok_below hW (by repeat (first | (with_reducible first | exact HB.out | apply below_alloc | apply pw_below_drewN | apply below_drew1) | exact HB.out))) A39.out).mono ?_); rintro e w48 ⟨rfl, hb⟩; refine ⟨_, rfl, ?_⟩; have n0_ := Aside0.mk (below_step (by repeat (first | (with_reducible first | exact HB.out | apply below_alloc | apply pw_below_drewN | apply below_drew1) | exact HB.out)) hb); clear HB; have HB := n0_; clear n0_; (try clear hb); (try clear hb2); (try clear hk); (try clear hi); have p43 : 0 ≤ ((ji40) : Int) := of_decide_eq_true (by first | (with_reducible assumption) | assumption); have q43 : (ji40) < ((rdOf ByteArray.empty t109 (ji15)).size : Int) := of_decide_eq_true (by first | (with_reducible assumption) | assumption); have hx43 := bt_at (rdOf ByteArray.empty t109 (ji15)) (ji40); replace p43 := eq_true p43; replace q43 := eq_true q43))
                                  go_ret
                                  exact ⟨by first | rfl | (simp [errW_none, errW_some] <;> rfl) | (simp only [← hji15, ← hji40]; first | rfl | (simp [errW_none, errW_some] <;> rfl)) | (simp [*, errW_none, errW_some] <;> rfl), by repeat (first | (with_reducible first | exact HB.out | apply below_alloc | apply pw_below_drewN | apply below_drew1) | exact HB.out)⟩
                            · rw [if_neg c42] at H
                              exact absurd H (by simp)
                          · rw [if_neg c41] at H
                            exact absurd H (by simp)
                        · rw [if_neg c38] at H
                          exact absurd H (by simp)
              · rw [if_neg c18] at H
                exact absurd H (by simp)
            · rw [if_neg c17] at H
              exact absurd H (by simp)
          · rw [if_neg c16] at H
            exact absurd H (by simp)

/-- THE ONE PURE STATEMENT of decanterlaw04_EntityPrefix: yours. -/
def decanterlaw04_EntityPrefix.Pure : Prop := ∀ (a0 : Int) (a1 : ByteArray), (Lit.int .u16 a0).wf = true → a1.size ≤ 140737488351232 → ∃ k, decanterlaw04_EntityPrefix.f k a0 a1 = some true
theorem decanterlaw04_EntityPrefix.walk (P : decanterlaw04_EntityPrefix.Pure) (a0 : Int) (a1 : ByteArray) (w : World) (hW : Wok w) (w0 : (Lit.int .u16 a0).wf = true) (w1 : a1.size ≤ 140737488351232) :
    Calls Tryd.prog 5 #[.int .u16 a0, .string a1] w fun e w' => e = .returned (.bool true) ∧ Below w.heap.size w w' := by
  obtain ⟨k, h⟩ := P a0 a1 w0 w1
  refine (decanterlaw04_EntityPrefix.calls k a0 a1 true w hW h).mono ?_
  rintro e w' ⟨rfl, hd⟩
  exact ⟨rfl, hd⟩

-- NOT PRINTED: function 6 (decanterlaw04_EntityTexts)

end Go.Proofs.YtnmjocoopbfpnaaDoor.PEntityP
