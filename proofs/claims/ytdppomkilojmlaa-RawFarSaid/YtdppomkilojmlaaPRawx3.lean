-- Laid by a program of this session (tools/patch_print.py) out of the translation. Not trusted: Lean checks it.
import Derived.Test.YtdppomkilojmlaaPRawx0
import Derived.Test.YtdppomkilojmlaaPRawx1
import Derived.Test.YtdppomkilojmlaaPRawx2
namespace Go.Proofs.Ytdppomkilojmlaa.PRaw
open Go.RowKit Go.Proofs.YtdppomkilojmlaaW.PrintWords Go.Proofs.YtdppomkilojmlaaW.PrintLast Go.Proofs.YtdppomkilojmlaaW.PrintMore
attribute [local go_sem] max2_int min2_int max_two min_two max_three min_three max_four min_four   -- for this text's walks alone
set_option linter.unusedVariables false
set_option linter.unusedSimpArgs false

/-! ### decanterref09_ends: function 19 -/
def decanterref09_ends.f (k : Nat) (l0 : List Int) (a1 : Int) (a2 : ByteArray) : Option (Bool) := if (wrap64 ((wrap64 (a1 + 2)) + (a2.size : Int))) ≥ (l0.length : Int) then (some false) else (if 0 ≤ a1 then (if a1 < (l0.length : Int) then (if (rd l0 a1) = 60 then (if 0 ≤ (wrap64 (a1 + 1)) then (if (wrap64 (a1 + 1)) < (l0.length : Int) then (if (rd l0 (wrap64 (a1 + 1))) = 47 then (if 0 ≤ (wrap64 (a1 + 2)) then (if (wrap64 (a1 + 2)) ≤ (wrap64 ((wrap64 (a1 + 2)) + (a2.size : Int))) then (if (wrap64 ((wrap64 (a1 + 2)) + (a2.size : Int))) ≤ (l0.length : Int) then ((decanterref03_Small.f k (strOfNums ((l0.take ((wrap64 ((wrap64 (a1 + 2)) + (a2.size : Int))) : Int).toNat).drop ((wrap64 (a1 + 2)) : Int).toNat))).bind fun t130 => (if t130.toList = a2.toList then (if 0 ≤ (wrap64 ((wrap64 (a1 + 2)) + (a2.size : Int))) then (if (wrap64 ((wrap64 (a1 + 2)) + (a2.size : Int))) < (l0.length : Int) then (if (wrap64 (rd l0 (wrap64 ((wrap64 (a1 + 2)) + (a2.size : Int))))) = 9 then (some true) else (if (wrap64 (rd l0 (wrap64 ((wrap64 (a1 + 2)) + (a2.size : Int))))) = 10 then (some true) else (if (wrap64 (rd l0 (wrap64 ((wrap64 (a1 + 2)) + (a2.size : Int))))) = 12 then (some true) else (if (wrap64 (rd l0 (wrap64 ((wrap64 (a1 + 2)) + (a2.size : Int))))) = 13 then (some true) else (if (wrap64 (rd l0 (wrap64 ((wrap64 (a1 + 2)) + (a2.size : Int))))) = 32 then (some true) else (if (wrap64 (rd l0 (wrap64 ((wrap64 (a1 + 2)) + (a2.size : Int))))) = 47 then (some true) else (some ((wrap64 (rd l0 (wrap64 ((wrap64 (a1 + 2)) + (a2.size : Int))))) == 62)))))))) else (none)) else (none)) else (some false))) else (none)) else (none)) else (none)) else (some false)) else (none)) else (none)) else (some false)) else (none)) else (none))
theorem decanterref09_ends.mono : ∀ a0 a1 a2 k, LeO (decanterref09_ends.f k a0 a1 a2) (decanterref09_ends.f (k + 1) a0 a1 a2) := by
  intro a0 a1 a2 k
  unfold decanterref09_ends.f
  repeat' first
      | (with_reducible exact decanterref03_Small.mono _ _)
      | (with_reducible exact LeO.refl _)
      | (with_reducible exact LeO.none _)
      | (with_reducible refine LeO.ite ?_ ?_)
      | (with_reducible refine LeO.bind ?_ (fun _ => ?_))
      | exact decanterref03_Small.mono _ _
      | exact LeO.none _
      | refine LeO.ite ?_ ?_
      | refine LeO.bind ?_ (fun _ => ?_)
set_option maxHeartbeats 8000000 in
set_option maxRecDepth 100000 in
theorem decanterref09_ends.calls (k : Nat) (A0 : Option Addr) (c0 : Nat) (l0 : List Int) (a1 : Int) (a2 : ByteArray) (r : Bool) (w : World) (hr0 : Kd.C (Kd.int .u8) w A0 l0.length l0) (hc0 : l0.length ≤ c0) (h : decanterref09_ends.f k l0 a1 a2 = some r) :
    Calls Try.prog 19 #[.slice A0 l0.length c0, .int .i64 a1, .string a2] w fun e w' => e = .returned (.bool r) ∧ Below w.heap.size w w' := by
  have HR0 := Aside0.mk hr0
  have HC0 := Aside0.mk hc0
  clear hr0 hc0
  have HB := Aside0.mk (Below.refl w.heap.size w)
  have H : (if (wrap64 ((wrap64 (a1 + 2)) + (a2.size : Int))) ≥ (l0.length : Int) then (some false) else (if 0 ≤ a1 then (if a1 < (l0.length : Int) then (if (rd l0 a1) = 60 then (if 0 ≤ (wrap64 (a1 + 1)) then (if (wrap64 (a1 + 1)) < (l0.length : Int) then (if (rd l0 (wrap64 (a1 + 1))) = 47 then (if 0 ≤ (wrap64 (a1 + 2)) then (if (wrap64 (a1 + 2)) ≤ (wrap64 ((wrap64 (a1 + 2)) + (a2.size : Int))) then (if (wrap64 ((wrap64 (a1 + 2)) + (a2.size : Int))) ≤ (l0.length : Int) then ((decanterref03_Small.f k (strOfNums ((l0.take ((wrap64 ((wrap64 (a1 + 2)) + (a2.size : Int))) : Int).toNat).drop ((wrap64 (a1 + 2)) : Int).toNat))).bind fun t130 => (if t130.toList = a2.toList then (if 0 ≤ (wrap64 ((wrap64 (a1 + 2)) + (a2.size : Int))) then (if (wrap64 ((wrap64 (a1 + 2)) + (a2.size : Int))) < (l0.length : Int) then (if (wrap64 (rd l0 (wrap64 ((wrap64 (a1 + 2)) + (a2.size : Int))))) = 9 then (some true) else (if (wrap64 (rd l0 (wrap64 ((wrap64 (a1 + 2)) + (a2.size : Int))))) = 10 then (some true) else (if (wrap64 (rd l0 (wrap64 ((wrap64 (a1 + 2)) + (a2.size : Int))))) = 12 then (some true) else (if (wrap64 (rd l0 (wrap64 ((wrap64 (a1 + 2)) + (a2.size : Int))))) = 13 then (some true) else (if (wrap64 (rd l0 (wrap64 ((wrap64 (a1 + 2)) + (a2.size : Int))))) = 32 then (some true) else (if (wrap64 (rd l0 (wrap64 ((wrap64 (a1 + 2)) + (a2.size : Int))))) = 47 then (some true) else (some ((wrap64 (rd l0 (wrap64 ((wrap64 (a1 + 2)) + (a2.size : Int))))) == 62)))))))) else (none)) else (none)) else (some false))) else (none)) else (none)) else (none)) else (some false)) else (none)) else (none)) else (some false)) else (none)) else (none))) = some r := h
  clear h
  by_cases c4 : (wrap64 ((wrap64 (a1 + 2)) + (a2.size : Int))) ≥ (l0.length : Int)
  · rw [if_pos c4] at H
    have c4b0 : decide ((l0.length : Int) ≤ (wrap64 ((wrap64 (a1 + 2)) + (a2.size : Int)))) = true := decide_eq_true c4
    clear c4
    obtain rfl := Option.some.inj H
    go_enter Try.func19, Try.ntmps19
    go_wp2
    go_ret
    exact ⟨by first | rfl | (simp [errW_none, errW_some] <;> rfl) | (simp [*, errW_none, errW_some] <;> rfl), by repeat (first | (with_reducible first | exact HB.out | apply below_alloc | apply pw_below_drewN | apply below_drew1) | exact HB.out)⟩
  · rw [if_neg c4] at H
    have c4b0 : decide ((l0.length : Int) ≤ (wrap64 ((wrap64 (a1 + 2)) + (a2.size : Int)))) = false := decide_eq_false c4
    clear c4
    by_cases c5 : 0 ≤ a1
    · rw [if_pos c5] at H
      have c5b0 : decide (0 ≤ a1) = true := decide_eq_true c5
      clear c5
      by_cases c6 : a1 < (l0.length : Int)
      · rw [if_pos c6] at H
        have c6b0 : decide (a1 < (l0.length : Int)) = true := decide_eq_true c6
        clear c6
        by_cases c7 : (rd l0 a1) = 60
        · rw [if_pos c7] at H
          have c7b0 : ((rd l0 a1) == 60) = true := beq_iff_eq.mpr c7
          have c7b1 : ((rd l0 a1) != 60) = false := bne_eq_false_iff_eq.mpr c7
          clear c7
          obtain ⟨ji8, hji8⟩ : ∃ j_ : Int, (wrap64 (a1 + 1)) = j_ := ⟨_, rfl⟩
          replace H : (if 0 ≤ (ji8) then (if (ji8) < (l0.length : Int) then (if (rd l0 (ji8)) = 47 then (if 0 ≤ (wrap64 (a1 + 2)) then (if (wrap64 (a1 + 2)) ≤ (wrap64 ((wrap64 (a1 + 2)) + (a2.size : Int))) then (if (wrap64 ((wrap64 (a1 + 2)) + (a2.size : Int))) ≤ (l0.length : Int) then ((decanterref03_Small.f k (strOfNums ((l0.take ((wrap64 ((wrap64 (a1 + 2)) + (a2.size : Int))) : Int).toNat).drop ((wrap64 (a1 + 2)) : Int).toNat))).bind fun t130 => (if t130.toList = a2.toList then (if 0 ≤ (wrap64 ((wrap64 (a1 + 2)) + (a2.size : Int))) then (if (wrap64 ((wrap64 (a1 + 2)) + (a2.size : Int))) < (l0.length : Int) then (if (wrap64 (rd l0 (wrap64 ((wrap64 (a1 + 2)) + (a2.size : Int))))) = 9 then (some true) else (if (wrap64 (rd l0 (wrap64 ((wrap64 (a1 + 2)) + (a2.size : Int))))) = 10 then (some true) else (if (wrap64 (rd l0 (wrap64 ((wrap64 (a1 + 2)) + (a2.size : Int))))) = 12 then (some true) else (if (wrap64 (rd l0 (wrap64 ((wrap64 (a1 + 2)) + (a2.size : Int))))) = 13 then (some true) else (if (wrap64 (rd l0 (wrap64 ((wrap64 (a1 + 2)) + (a2.size : Int))))) = 32 then (some true) else (if (wrap64 (rd l0 (wrap64 ((wrap64 (a1 + 2)) + (a2.size : Int))))) = 47 then (some true) else (some ((wrap64 (rd l0 (wrap64 ((wrap64 (a1 + 2)) + (a2.size : Int))))) == 62)))))))) else (none)) else (none)) else (some false))) else (none)) else (none)) else (none)) else (some false)) else (none)) else (none)) = some r := by first | (rw [hji8] at H; exact H) | (simp only [hji8] at H ⊢; exact H)
          (try rw [hji8] at c4b0)
          have hji8w : (IntKind.i64.wrap (a1 + 1)) = ji8 := (i64_w _).trans hji8
          by_cases c9 : 0 ≤ (ji8)
          · rw [if_pos c9] at H
            have c9b0 : decide (0 ≤ (ji8)) = true := decide_eq_true c9
            clear c9
            by_cases c10 : (ji8) < (l0.length : Int)
            · rw [if_pos c10] at H
              have c10b0 : decide ((ji8) < (l0.length : Int)) = true := decide_eq_true c10
              clear c10
              by_cases c11 : (rd l0 (ji8)) = 47
              · rw [if_pos c11] at H
                have c11b0 : ((rd l0 (ji8)) == 47) = true := beq_iff_eq.mpr c11
                have c11b1 : ((rd l0 (ji8)) != 47) = false := bne_eq_false_iff_eq.mpr c11
                clear c11
                obtain ⟨ji12, hji12⟩ : ∃ j_ : Int, (wrap64 (a1 + 2)) = j_ := ⟨_, rfl⟩
                replace H : (if 0 ≤ (ji12) then (if (ji12) ≤ (wrap64 ((ji12) + (a2.size : Int))) then (if (wrap64 ((ji12) + (a2.size : Int))) ≤ (l0.length : Int) then ((decanterref03_Small.f k (strOfNums ((l0.take ((wrap64 ((ji12) + (a2.size : Int))) : Int).toNat).drop ((ji12) : Int).toNat))).bind fun t130 => (if t130.toList = a2.toList then (if 0 ≤ (wrap64 ((ji12) + (a2.size : Int))) then (if (wrap64 ((ji12) + (a2.size : Int))) < (l0.length : Int) then (if (wrap64 (rd l0 (wrap64 ((ji12) + (a2.size : Int))))) = 9 then (some true) else (if (wrap64 (rd l0 (wrap64 ((ji12) + (a2.size : Int))))) = 10 then (some true) else (if (wrap64 (rd l0 (wrap64 ((ji12) + (a2.size : Int))))) = 12 then (some true) else (if (wrap64 (rd l0 (wrap64 ((ji12) + (a2.size : Int))))) = 13 then (some true) else (if (wrap64 (rd l0 (wrap64 ((ji12) + (a2.size : Int))))) = 32 then (some true) else (if (wrap64 (rd l0 (wrap64 ((ji12) + (a2.size : Int))))) = 47 then (some true) else (some ((wrap64 (rd l0 (wrap64 ((ji12) + (a2.size : Int))))) == 62)))))))) else (none)) else (none)) else (some false))) else (none)) else (none)) else (none)) = some r := by first | (rw [hji12] at H; exact H) | (simp only [hji12] at H ⊢; exact H)
                (try rw [hji12] at c4b0)
                have hji12w : (IntKind.i64.wrap (a1 + 2)) = ji12 := (i64_w _).trans hji12
                by_cases c13 : 0 ≤ (ji12)
                · rw [if_pos c13] at H
                  have c13b0 := eq_true c13
                  have c13b1 : decide (0 ≤ (ji12)) = true := decide_eq_true c13
                  clear c13
                  by_cases c14 : (ji12) ≤ (wrap64 ((ji12) + (a2.size : Int)))
                  · rw [if_pos c14] at H
                    have c14b0 := eq_true c14
                    have c14b1 : decide ((ji12) ≤ (wrap64 ((ji12) + (a2.size : Int)))) = true := decide_eq_true c14
                    by_cases c15 : (wrap64 ((ji12) + (a2.size : Int))) ≤ (l0.length : Int)
                    · rw [if_pos c15] at H
                      have c15b0 := eq_true c15
                      have c15b1 : decide ((wrap64 ((ji12) + (a2.size : Int))) ≤ (l0.length : Int)) = true := decide_eq_true c15
                      replace H := Option.bind_eq_some_iff.mp H
                      obtain ⟨t130, A160, H⟩ := H
                      replace H : (if t130.toList = a2.toList then (if 0 ≤ (wrap64 ((ji12) + (a2.size : Int))) then (if (wrap64 ((ji12) + (a2.size : Int))) < (l0.length : Int) then (if (wrap64 (rd l0 (wrap64 ((ji12) + (a2.size : Int))))) = 9 then (some true) else (if (wrap64 (rd l0 (wrap64 ((ji12) + (a2.size : Int))))) = 10 then (some true) else (if (wrap64 (rd l0 (wrap64 ((ji12) + (a2.size : Int))))) = 12 then (some true) else (if (wrap64 (rd l0 (wrap64 ((ji12) + (a2.size : Int))))) = 13 then (some true) else (if (wrap64 (rd l0 (wrap64 ((ji12) + (a2.size : Int))))) = 32 then (some true) else (if (wrap64 (rd l0 (wrap64 ((ji12) + (a2.size : Int))))) = 47 then (some true) else (some ((wrap64 (rd l0 (wrap64 ((ji12) + (a2.size : Int))))) == 62)))))))) else (none)) else (none)) else (some false)) = some r := H
                      have A16 := Aside0.mk A160
                      clear A160
                      by_cases c17 : t130.toList = a2.toList
                      · rw [if_pos c17] at H
                        have c17b0 : (t130.toList == a2.toList) = true := beq_iff_eq.mpr c17
                        have c17b1 : (t130.toList != a2.toList) = false := bne_eq_false_iff_eq.mpr c17
                        clear c17
                        obtain ⟨ji18, hji18⟩ : ∃ j_ : Int, (wrap64 ((ji12) + (a2.size : Int))) = j_ := ⟨_, rfl⟩
                        replace H : (if 0 ≤ (ji18) then (if (ji18) < (l0.length : Int) then (if (wrap64 (rd l0 (ji18))) = 9 then (some true) else (if (wrap64 (rd l0 (ji18))) = 10 then (some true) else (if (wrap64 (rd l0 (ji18))) = 12 then (some true) else (if (wrap64 (rd l0 (ji18))) = 13 then (some true) else (if (wrap64 (rd l0 (ji18))) = 32 then (some true) else (if (wrap64 (rd l0 (ji18))) = 47 then (some true) else (some ((wrap64 (rd l0 (ji18))) == 62)))))))) else (none)) else (none)) = some r := by first | (rw [hji18] at H; exact H) | (simp only [hji18] at H ⊢; exact H)
                        (try rw [hji18] at c4b0)
                        (try rw [hji18] at c14b0)
                        (try rw [hji18] at c14b1)
                        (try rw [hji18] at c14)
                        (try rw [hji18] at c15b0)
                        (try rw [hji18] at c15b1)
                        (try rw [hji18] at c15)
                        (try rw [hji18] at A16)
                        have hji18w : (IntKind.i64.wrap ((ji12) + (a2.size : Int))) = ji18 := (i64_w _).trans hji18
                        by_cases c19 : 0 ≤ (ji18)
                        · rw [if_pos c19] at H
                          have c19b0 : decide (0 ≤ (ji18)) = true := decide_eq_true c19
                          clear c19
                          by_cases c20 : (ji18) < (l0.length : Int)
                          · rw [if_pos c20] at H
                            have c20b0 : decide ((ji18) < (l0.length : Int)) = true := decide_eq_true c20
                            clear c20
                            by_cases c21 : (wrap64 (rd l0 (ji18))) = 9
                            · rw [if_pos c21] at H
                              have c21b0 : ((wrap64 (rd l0 (ji18))) == 9) = true := beq_iff_eq.mpr c21
                              have c21b1 : ((wrap64 (rd l0 (ji18))) != 9) = false := bne_eq_false_iff_eq.mpr c21
                              clear c21
                              obtain rfl := Option.some.inj H
                              have p127 : 0 ≤ (a1 : Int) := of_decide_eq_true (by first | (with_reducible assumption) | assumption)
                              have q127 : a1 < (l0.length : Int) := of_decide_eq_true (by first | (with_reducible assumption) | assumption)
                              obtain ⟨ad127, e127, hx127_0⟩ := Kd.at_int HR0.out a1 p127 q127
                              cases e127
                              replace p127 := eq_true p127
                              replace q127 := eq_true q127
                              have p128 : 0 ≤ ((ji8) : Int) := of_decide_eq_true (by first | (with_reducible assumption) | assumption)
                              have q128 : (ji8) < (l0.length : Int) := of_decide_eq_true (by first | (with_reducible assumption) | assumption)
                              obtain ⟨ad128, e128, hx128_0⟩ := Kd.at_int HR0.out (ji8) p128 q128
                              obtain rfl : ad127 = ad128 := (by injection e128)
                              replace p128 := eq_true p128
                              replace q128 := eq_true q128
                              obtain ⟨i022, hi022, _, hsz22, _⟩ := info_parts info5
                              obtain ⟨A22, hcut22, hA22, hC22⟩ := print_mid_of (P := Try.prog) (Value.int .u8) 0 22 5 .i64 .i64 Try.underlying22 hi022 hsz22 (some ad127) c0 l0 (ji12) (ji18) (of_decide_eq_true (by first | (with_reducible assumption) | assumption)) (by first | omega | exact of_decide_eq_true (by first | (with_reducible assumption) | assumption)) (of_decide_eq_true (by first | (with_reducible assumption) | assumption)) HC0.out
                              have HR129 := Aside0.mk (Kd.C_of_reads (h1 := fun _ => rfl) (hA22 _ (Kd.reads_of_C HR0.out)))
                              have HC129 := Aside0.mk hC22
                              clear hA22 hC22 hi022 hsz22
                              have hcv23 := Kd.C_string (P := Try.prog) (A := A22) (c := (c0 - (ji12).toNat)) Try.underlying22 Try.underlying5 Try.underlying9 HR129.out
                              have hcw23 := hcv23
                              (try simp only [Int.reduceToNat] at hcw23)
                              (try rw [show ((l0.take ((ji18) : Int).toNat).drop ((ji12) : Int).toNat).length = ((ji18).toNat - (ji12).toNat) from (by rw [List.length_drop, List.length_take]; have h_ : ((ji18) : Int) ≤ (l0.length : Int) := of_decide_eq_true (by first | (with_reducible assumption) | assumption); omega)] at hcw23)
                              go_enter Try.func19, Try.ntmps19
                              go_wp2_with (first | (go_at_call 28; (with_reducible refine (decanterref03_Small.calls k (strOfNums ((l0.take ((ji18) : Int).toNat).drop ((ji12) : Int).toNat)) t130 _ A16.out).mono ?_); rintro e w24 ⟨rfl, hb⟩; have n0_ := Aside0.mk (below_step (by repeat (first | (with_reducible first | exact HB.out | apply below_alloc | apply pw_below_drewN | apply below_drew1) | exact HB.out)) hb); clear HB; have HB := n0_; clear n0_; (try clear hb); (try clear hb2); (try clear hk); (try clear hi); have p131 : 0 ≤ ((ji18) : Int) := of_decide_eq_true (by first | (with_reducible assumption) | assumption); have q131 : (ji18) < (l0.length : Int) := of_decide_eq_true (by first | (with_reducible assumption) | assumption); obtain ⟨ad131, e131, hx131_0⟩ := Kd.at_int HR0.out (ji18) p131 q131; obtain rfl : ad127 = ad131 := (by injection e131); replace hx131_0 := (HB.out.cell (World.block_lt_of_cell? w _ hx131_0)).trans hx131_0; replace p131 := eq_true p131; replace q131 := eq_true q131))
                              go_ret
                              exact ⟨by first | rfl | (simp [errW_none, errW_some] <;> rfl) | (simp only [← hji8, ← hji12, ← hji18]; first | rfl | (simp [errW_none, errW_some] <;> rfl)) | (simp [*, errW_none, errW_some] <;> rfl), by repeat (first | (with_reducible first | exact HB.out | apply below_alloc | apply pw_below_drewN | apply below_drew1) | exact HB.out)⟩
                            · rw [if_neg c21] at H
                              have c21b0 : ((wrap64 (rd l0 (ji18))) == 9) = false := beq_eq_false_iff_ne.mpr c21
                              have c21b1 : ((wrap64 (rd l0 (ji18))) != 9) = true := bne_iff_ne.mpr c21
                              by_cases c25 : (wrap64 (rd l0 (ji18))) = 10
                              · rw [if_pos c25] at H
                                have c25b0 : ((wrap64 (rd l0 (ji18))) == 10) = true := beq_iff_eq.mpr c25
                                have c25b1 : ((wrap64 (rd l0 (ji18))) != 10) = false := bne_eq_false_iff_eq.mpr c25
                                clear c25
                                obtain rfl := Option.some.inj H
                                have p127 : 0 ≤ (a1 : Int) := of_decide_eq_true (by first | (with_reducible assumption) | assumption)
                                have q127 : a1 < (l0.length : Int) := of_decide_eq_true (by first | (with_reducible assumption) | assumption)
                                obtain ⟨ad127, e127, hx127_0⟩ := Kd.at_int HR0.out a1 p127 q127
                                cases e127
                                replace p127 := eq_true p127
                                replace q127 := eq_true q127
                                have p128 : 0 ≤ ((ji8) : Int) := of_decide_eq_true (by first | (with_reducible assumption) | assumption)
                                have q128 : (ji8) < (l0.length : Int) := of_decide_eq_true (by first | (with_reducible assumption) | assumption)
                                obtain ⟨ad128, e128, hx128_0⟩ := Kd.at_int HR0.out (ji8) p128 q128
                                obtain rfl : ad127 = ad128 := (by injection e128)
                                replace p128 := eq_true p128
                                replace q128 := eq_true q128
                                obtain ⟨i026, hi026, _, hsz26, _⟩ := info_parts info5
                                obtain ⟨A26, hcut26, hA26, hC26⟩ := print_mid_of (P := Try.prog) (Value.int .u8) 0 22 5 .i64 .i64 Try.underlying22 hi026 hsz26 (some ad127) c0 l0 (ji12) (ji18) (of_decide_eq_true (by first | (with_reducible assumption) | assumption)) (by first | omega | exact of_decide_eq_true (by first | (with_reducible assumption) | assumption)) (of_decide_eq_true (by first | (with_reducible assumption) | assumption)) HC0.out
                                have HR129 := Aside0.mk (Kd.C_of_reads (h1 := fun _ => rfl) (hA26 _ (Kd.reads_of_C HR0.out)))
                                have HC129 := Aside0.mk hC26
                                clear hA26 hC26 hi026 hsz26
                                have hcv27 := Kd.C_string (P := Try.prog) (A := A26) (c := (c0 - (ji12).toNat)) Try.underlying22 Try.underlying5 Try.underlying9 HR129.out
                                have hcw27 := hcv27
                                (try simp only [Int.reduceToNat] at hcw27)
                                (try rw [show ((l0.take ((ji18) : Int).toNat).drop ((ji12) : Int).toNat).length = ((ji18).toNat - (ji12).toNat) from (by rw [List.length_drop, List.length_take]; have h_ : ((ji18) : Int) ≤ (l0.length : Int) := of_decide_eq_true (by first | (with_reducible assumption) | assumption); omega)] at hcw27)
                                go_enter Try.func19, Try.ntmps19
                                go_wp2_with (first | (go_at_call 28; (with_reducible refine (decanterref03_Small.calls k (strOfNums ((l0.take ((ji18) : Int).toNat).drop ((ji12) : Int).toNat)) t130 _ A16.out).mono ?_); rintro e w28 ⟨rfl, hb⟩; have n0_ := Aside0.mk (below_step (by repeat (first | (with_reducible first | exact HB.out | apply below_alloc | apply pw_below_drewN | apply below_drew1) | exact HB.out)) hb); clear HB; have HB := n0_; clear n0_; (try clear hb); (try clear hb2); (try clear hk); (try clear hi); have p131 : 0 ≤ ((ji18) : Int) := of_decide_eq_true (by first | (with_reducible assumption) | assumption); have q131 : (ji18) < (l0.length : Int) := of_decide_eq_true (by first | (with_reducible assumption) | assumption); obtain ⟨ad131, e131, hx131_0⟩ := Kd.at_int HR0.out (ji18) p131 q131; obtain rfl : ad127 = ad131 := (by injection e131); replace hx131_0 := (HB.out.cell (World.block_lt_of_cell? w _ hx131_0)).trans hx131_0; replace p131 := eq_true p131; replace q131 := eq_true q131))
                                go_ret
                                exact ⟨by first | rfl | (simp [errW_none, errW_some] <;> rfl) | (simp only [← hji8, ← hji12, ← hji18]; first | rfl | (simp [errW_none, errW_some] <;> rfl)) | (simp [*, errW_none, errW_some] <;> rfl), by repeat (first | (with_reducible first | exact HB.out | apply below_alloc | apply pw_below_drewN | apply below_drew1) | exact HB.out)⟩
                              · rw [if_neg c25] at H
                                have c25b0 : ((wrap64 (rd l0 (ji18))) == 10) = false := beq_eq_false_iff_ne.mpr c25
                                have c25b1 : ((wrap64 (rd l0 (ji18))) != 10) = true := bne_iff_ne.mpr c25
                                by_cases c29 : (wrap64 (rd l0 (ji18))) = 12
                                · rw [if_pos c29] at H
                                  have c29b0 : ((wrap64 (rd l0 (ji18))) == 12) = true := beq_iff_eq.mpr c29
                                  have c29b1 : ((wrap64 (rd l0 (ji18))) != 12) = false := bne_eq_false_iff_eq.mpr c29
                                  clear c29
                                  obtain rfl := Option.some.inj H
                                  have p127 : 0 ≤ (a1 : Int) := of_decide_eq_true (by first | (with_reducible assumption) | assumption)
                                  have q127 : a1 < (l0.length : Int) := of_decide_eq_true (by first | (with_reducible assumption) | assumption)
                                  obtain ⟨ad127, e127, hx127_0⟩ := Kd.at_int HR0.out a1 p127 q127
                                  cases e127
                                  replace p127 := eq_true p127
                                  replace q127 := eq_true q127
                                  have p128 : 0 ≤ ((ji8) : Int) := of_decide_eq_true (by first | (with_reducible assumption) | assumption)
                                  have q128 : (ji8) < (l0.length : Int) := of_decide_eq_true (by first | (with_reducible assumption) | assumption)
                                  obtain ⟨ad128, e128, hx128_0⟩ := Kd.at_int HR0.out (ji8) p128 q128
                                  obtain rfl : ad127 = ad128 := (by injection e128)
                                  replace p128 := eq_true p128
                                  replace q128 := eq_true q128
                                  obtain ⟨i030, hi030, _, hsz30, _⟩ := info_parts info5
                                  obtain ⟨A30, hcut30, hA30, hC30⟩ := print_mid_of (P := Try.prog) (Value.int .u8) 0 22 5 .i64 .i64 Try.underlying22 hi030 hsz30 (some ad127) c0 l0 (ji12) (ji18) (of_decide_eq_true (by first | (with_reducible assumption) | assumption)) (by first | omega | exact of_decide_eq_true (by first | (with_reducible assumption) | assumption)) (of_decide_eq_true (by first | (with_reducible assumption) | assumption)) HC0.out
                                  have HR129 := Aside0.mk (Kd.C_of_reads (h1 := fun _ => rfl) (hA30 _ (Kd.reads_of_C HR0.out)))
                                  have HC129 := Aside0.mk hC30
                                  clear hA30 hC30 hi030 hsz30
                                  have hcv31 := Kd.C_string (P := Try.prog) (A := A30) (c := (c0 - (ji12).toNat)) Try.underlying22 Try.underlying5 Try.underlying9 HR129.out
                                  have hcw31 := hcv31
                                  (try simp only [Int.reduceToNat] at hcw31)
                                  (try rw [show ((l0.take ((ji18) : Int).toNat).drop ((ji12) : Int).toNat).length = ((ji18).toNat - (ji12).toNat) from (by rw [List.length_drop, List.length_take]; have h_ : ((ji18) : Int) ≤ (l0.length : Int) := of_decide_eq_true (by first | (with_reducible assumption) | assumption); omega)] at hcw31)
                                  go_enter Try.func19, Try.ntmps19
                                  go_wp2_with (first | (go_at_call 28; (with_reducible refine (decanterref03_Small.calls k (strOfNums ((l0.take ((ji18) : Int).toNat).drop ((ji12) : Int).toNat)) t130 _ A16.out).mono ?_); rintro e w32 ⟨rfl, hb⟩; have n0_ := Aside0.mk (below_step (by repeat (first | (with_reducible first | exact HB.out | apply below_alloc | apply pw_below_drewN | apply below_drew1) | exact HB.out)) hb); clear HB; have HB := n0_; clear n0_; (try clear hb); (try clear hb2); (try clear hk); (try clear hi); have p131 : 0 ≤ ((ji18) : Int) := of_decide_eq_true (by first | (with_reducible assumption) | assumption); have q131 : (ji18) < (l0.length : Int) := of_decide_eq_true (by first | (with_reducible assumption) | assumption); obtain ⟨ad131, e131, hx131_0⟩ := Kd.at_int HR0.out (ji18) p131 q131; obtain rfl : ad127 = ad131 := (by injection e131); replace hx131_0 := (HB.out.cell (World.block_lt_of_cell? w _ hx131_0)).trans hx131_0; replace p131 := eq_true p131; replace q131 := eq_true q131))
                                  go_ret
                                  exact ⟨by first | rfl | (simp [errW_none, errW_some] <;> rfl) | (simp only [← hji8, ← hji12, ← hji18]; first | rfl | (simp [errW_none, errW_some] <;> rfl)) | (simp [*, errW_none, errW_some] <;> rfl), by repeat (first | (with_reducible first | exact HB.out | apply below_alloc | apply pw_below_drewN | apply below_drew1) | exact HB.out)⟩
                                · rw [if_neg c29] at H
                                  have c29b0 : ((wrap64 (rd l0 (ji18))) == 12) = false := beq_eq_false_iff_ne.mpr c29
                                  have c29b1 : ((wrap64 (rd l0 (ji18))) != 12) = true := bne_iff_ne.mpr c29
                                  by_cases c33 : (wrap64 (rd l0 (ji18))) = 13
                                  · rw [if_pos c33] at H
                                    have c33b0 : ((wrap64 (rd l0 (ji18))) == 13) = true := beq_iff_eq.mpr c33
                                    have c33b1 : ((wrap64 (rd l0 (ji18))) != 13) = false := bne_eq_false_iff_eq.mpr c33
                                    clear c33
                                    obtain rfl := Option.some.inj H
                                    have p127 : 0 ≤ (a1 : Int) := of_decide_eq_true (by first | (with_reducible assumption) | assumption)
                                    have q127 : a1 < (l0.length : Int) := of_decide_eq_true (by first | (with_reducible assumption) | assumption)
                                    obtain ⟨ad127, e127, hx127_0⟩ := Kd.at_int HR0.out a1 p127 q127
                                    cases e127
                                    replace p127 := eq_true p127
                                    replace q127 := eq_true q127
                                    have p128 : 0 ≤ ((ji8) : Int) := of_decide_eq_true (by first | (with_reducible assumption) | assumption)
                                    have q128 : (ji8) < (l0.length : Int) := of_decide_eq_true (by first | (with_reducible assumption) | assumption)
                                    obtain ⟨ad128, e128, hx128_0⟩ := Kd.at_int HR0.out (ji8) p128 q128
                                    obtain rfl : ad127 = ad128 := (by injection e128)
                                    replace p128 := eq_true p128
                                    replace q128 := eq_true q128
                                    obtain ⟨i034, hi034, _, hsz34, _⟩ := info_parts info5
                                    obtain ⟨A34, hcut34, hA34, hC34⟩ := print_mid_of (P := Try.prog) (Value.int .u8) 0 22 5 .i64 .i64 Try.underlying22 hi034 hsz34 (some ad127) c0 l0 (ji12) (ji18) (of_decide_eq_true (by first | (with_reducible assumption) | assumption)) (by first | omega | exact of_decide_eq_true (by first | (with_reducible assumption) | assumption)) (of_decide_eq_true (by first | (with_reducible assumption) | assumption)) HC0.out
                                    have HR129 := Aside0.mk (Kd.C_of_reads (h1 := fun _ => rfl) (hA34 _ (Kd.reads_of_C HR0.out)))
                                    have HC129 := Aside0.mk hC34
                                    clear hA34 hC34 hi034 hsz34
                                    have hcv35 := Kd.C_string (P := Try.prog) (A := A34) (c := (c0 - (ji12).toNat)) Try.underlying22 Try.underlying5 Try.underlying9 HR129.out
                                    have hcw35 := hcv35
                                    (try simp only [Int.reduceToNat] at hcw35)
                                    (try rw [show ((l0.take ((ji18) : Int).toNat).drop ((ji12) : Int).toNat).length = ((ji18).toNat - (ji12).toNat) from (by rw [List.length_drop, List.length_take]; have h_ : ((ji18) : Int) ≤ (l0.length : Int) := of_decide_eq_true (by first | (with_reducible assumption) | assumption); omega)] at hcw35)
                                    go_enter Try.func19, Try.ntmps19
                                    go_wp2_with (first | (go_at_call 28; (with_reducible refine (decanterref03_Small.calls k (strOfNums ((l0.take ((ji18) : Int).toNat).drop ((ji12) : Int).toNat)) t130 _ A16.out).mono ?_); rintro e w36 ⟨rfl, hb⟩; have n0_ := Aside0.mk (below_step (by repeat (first | (with_reducible first | exact HB.out | apply below_alloc | apply pw_below_drewN | apply below_drew1) | exact HB.out)) hb); clear HB; have HB := n0_; clear n0_; (try clear hb); (try clear hb2); (try clear hk); (try clear hi); have p131 : 0 ≤ ((ji18) : Int) := of_decide_eq_true (by first | (with_reducible assumption) | assumption); have q131 : (ji18) < (l0.length : Int) := of_decide_eq_true (by first | (with_reducible assumption) | assumption); obtain ⟨ad131, e131, hx131_0⟩ := Kd.at_int HR0.out (ji18) p131 q131; obtain rfl : ad127 = ad131 := (by injection e131); replace hx131_0 := (HB.out.cell (World.block_lt_of_cell? w _ hx131_0)).trans hx131_0; replace p131 := eq_true p131; replace q131 := eq_true q131))
                                    go_ret
                                    exact ⟨by first | rfl | (simp [errW_none, errW_some] <;> rfl) | (simp only [← hji8, ← hji12, ← hji18]; first | rfl | (simp [errW_none, errW_some] <;> rfl)) | (simp [*, errW_none, errW_some] <;> rfl), by repeat (first | (with_reducible first | exact HB.out | apply below_alloc | apply pw_below_drewN | apply below_drew1) | exact HB.out)⟩
                                  · rw [if_neg c33] at H
                                    have c33b0 : ((wrap64 (rd l0 (ji18))) == 13) = false := beq_eq_false_iff_ne.mpr c33
                                    have c33b1 : ((wrap64 (rd l0 (ji18))) != 13) = true := bne_iff_ne.mpr c33
                                    by_cases c37 : (wrap64 (rd l0 (ji18))) = 32
                                    · rw [if_pos c37] at H
                                      have c37b0 : ((wrap64 (rd l0 (ji18))) == 32) = true := beq_iff_eq.mpr c37
                                      have c37b1 : ((wrap64 (rd l0 (ji18))) != 32) = false := bne_eq_false_iff_eq.mpr c37
                                      clear c37
                                      obtain rfl := Option.some.inj H
                                      have p127 : 0 ≤ (a1 : Int) := of_decide_eq_true (by first | (with_reducible assumption) | assumption)
                                      have q127 : a1 < (l0.length : Int) := of_decide_eq_true (by first | (with_reducible assumption) | assumption)
                                      obtain ⟨ad127, e127, hx127_0⟩ := Kd.at_int HR0.out a1 p127 q127
                                      cases e127
                                      replace p127 := eq_true p127
                                      replace q127 := eq_true q127
                                      have p128 : 0 ≤ ((ji8) : Int) := of_decide_eq_true (by first | (with_reducible assumption) | assumption)
                                      have q128 : (ji8) < (l0.length : Int) := of_decide_eq_true (by first | (with_reducible assumption) | assumption)
                                      obtain ⟨ad128, e128, hx128_0⟩ := Kd.at_int HR0.out (ji8) p128 q128
                                      obtain rfl : ad127 = ad128 := (by injection e128)
                                      replace p128 := eq_true p128
                                      replace q128 := eq_true q128
                                      obtain ⟨i038, hi038, _, hsz38, _⟩ := info_parts info5
                                      obtain ⟨A38, hcut38, hA38, hC38⟩ := print_mid_of (P := Try.prog) (Value.int .u8) 0 22 5 .i64 .i64 Try.underlying22 hi038 hsz38 (some ad127) c0 l0 (ji12) (ji18) (of_decide_eq_true (by first | (with_reducible assumption) | assumption)) (by first | omega | exact of_decide_eq_true (by first | (with_reducible assumption) | assumption)) (of_decide_eq_true (by first | (with_reducible assumption) | assumption)) HC0.out
                                      have HR129 := Aside0.mk (Kd.C_of_reads (h1 := fun _ => rfl) (hA38 _ (Kd.reads_of_C HR0.out)))
                                      have HC129 := Aside0.mk hC38
                                      clear hA38 hC38 hi038 hsz38
                                      have hcv39 := Kd.C_string (P := Try.prog) (A := A38) (c := (c0 - (ji12).toNat)) Try.underlying22 Try.underlying5 Try.underlying9 HR129.out
                                      have hcw39 := hcv39
                                      (try simp only [Int.reduceToNat] at hcw39)
                                      (try rw [show ((l0.take ((ji18) : Int).toNat).drop ((ji12) : Int).toNat).length = ((ji18).toNat - (ji12).toNat) from (by rw [List.length_drop, List.length_take]; have h_ : ((ji18) : Int) ≤ (l0.length : Int) := of_decide_eq_true (by first | (with_reducible assumption) | assumption); omega)] at hcw39)
                                      go_enter Try.func19, Try.ntmps19
                                      go_wp2_with (first | (go_at_call 28; (with_reducible refine (decanterref03_Small.calls k (strOfNums ((l0.take ((ji18) : Int).toNat).drop ((ji12) : Int).toNat)) t130 _ A16.out).mono ?_); rintro e w40 ⟨rfl, hb⟩; have n0_ := Aside0.mk (below_step (by repeat (first | (with_reducible first | exact HB.out | apply below_alloc | apply pw_below_drewN | apply below_drew1) | exact HB.out)) hb); clear HB; have HB := n0_; clear n0_; (try clear hb); (try clear hb2); (try clear hk); (try clear hi); have p131 : 0 ≤ ((ji18) : Int) := of_decide_eq_true (by first | (with_reducible assumption) | assumption); have q131 : (ji18) < (l0.length : Int) := of_decide_eq_true (by first | (with_reducible assumption) | assumption); obtain ⟨ad131, e131, hx131_0⟩ := Kd.at_int HR0.out (ji18) p131 q131; obtain rfl : ad127 = ad131 := (by injection e131); replace hx131_0 := (HB.out.cell (World.block_lt_of_cell? w _ hx131_0)).trans hx131_0; replace p131 := eq_true p131; replace q131 := eq_true q131))
                                      go_ret
                                      exact ⟨by first | rfl | (simp [errW_none, errW_some] <;> rfl) | (simp only [← hji8, ← hji12, ← hji18]; first | rfl | (simp [errW_none, errW_some] <;> rfl)) | (simp [*, errW_none, errW_some] <;> rfl), by repeat (first | (with_reducible first | exact HB.out | apply below_alloc | apply pw_below_drewN | apply below_drew1) | exact HB.out)⟩
                                    · rw [if_neg c37] at H
                                      have c37b0 : ((wrap64 (rd l0 (ji18))) == 32) = false := beq_eq_false_iff_ne.mpr c37
                                      have c37b1 : ((wrap64 (rd l0 (ji18))) != 32) = true := bne_iff_ne.mpr c37
                                      by_cases c41 : (wrap64 (rd l0 (ji18))) = 47
                                      · rw [if_pos c41] at H
                                        have c41b0 : ((wrap64 (rd l0 (ji18))) == 47) = true := beq_iff_eq.mpr c41
                                        have c41b1 : ((wrap64 (rd l0 (ji18))) != 47) = false := bne_eq_false_iff_eq.mpr c41
                                        clear c41
                                        obtain rfl := Option.some.inj H
                                        have p127 : 0 ≤ (a1 : Int) := of_decide_eq_true (by first | (with_reducible assumption) | assumption)
                                        have q127 : a1 < (l0.length : Int) := of_decide_eq_true (by first | (with_reducible assumption) | assumption)
                                        obtain ⟨ad127, e127, hx127_0⟩ := Kd.at_int HR0.out a1 p127 q127
                                        cases e127
                                        replace p127 := eq_true p127
                                        replace q127 := eq_true q127
                                        have p128 : 0 ≤ ((ji8) : Int) := of_decide_eq_true (by first | (with_reducible assumption) | assumption)
                                        have q128 : (ji8) < (l0.length : Int) := of_decide_eq_true (by first | (with_reducible assumption) | assumption)
                                        obtain ⟨ad128, e128, hx128_0⟩ := Kd.at_int HR0.out (ji8) p128 q128
                                        obtain rfl : ad127 = ad128 := (by injection e128)
                                        replace p128 := eq_true p128
                                        replace q128 := eq_true q128
                                        obtain ⟨i042, hi042, _, hsz42, _⟩ := info_parts info5
                                        obtain ⟨A42, hcut42, hA42, hC42⟩ := print_mid_of (P := Try.prog) (Value.int .u8) 0 22 5 .i64 .i64 Try.underlying22 hi042 hsz42 (some ad127) c0 l0 (ji12) (ji18) (of_decide_eq_true (by first | (with_reducible assumption) | assumption)) (by first | omega | exact of_decide_eq_true (by first | (with_reducible assumption) | assumption)) (of_decide_eq_true (by first | (with_reducible assumption) | assumption)) HC0.out
                                        have HR129 := Aside0.mk (Kd.C_of_reads (h1 := fun _ => rfl) (hA42 _ (Kd.reads_of_C HR0.out)))
                                        have HC129 := Aside0.mk hC42
                                        clear hA42 hC42 hi042 hsz42
                                        have hcv43 := Kd.C_string (P := Try.prog) (A := A42) (c := (c0 - (ji12).toNat)) Try.underlying22 Try.underlying5 Try.underlying9 HR129.out
                                        have hcw43 := hcv43
                                        (try simp only [Int.reduceToNat] at hcw43)
                                        (try rw [show ((l0.take ((ji18) : Int).toNat).drop ((ji12) : Int).toNat).length = ((ji18).toNat - (ji12).toNat) from (by rw [List.length_drop, List.length_take]; have h_ : ((ji18) : Int) ≤ (l0.length : Int) := of_decide_eq_true (by first | (with_reducible assumption) | assumption); omega)] at hcw43)
                                        go_enter Try.func19, Try.ntmps19
                                        go_wp2_with (first | (go_at_call 28; (with_reducible refine (decanterref03_Small.calls k (strOfNums ((l0.take ((ji18) : Int).toNat).drop ((ji12) : Int).toNat)) t130 _ A16.out).mono ?_); rintro e w44 ⟨rfl, hb⟩; have n0_ := Aside0.mk (below_step (by repeat (first | (with_reducible first | exact HB.out | apply below_alloc | apply pw_below_drewN | apply below_drew1) | exact HB.out)) hb); clear HB; have HB := n0_; clear n0_; (try clear hb); (try clear hb2); (try clear hk); (try clear hi); have p131 : 0 ≤ ((ji18) : Int) := of_decide_eq_true (by first | (with_reducible assumption) | assumption); have q131 : (ji18) < (l0.length : Int) := of_decide_eq_true (by first | (with_reducible assumption) | assumption); obtain ⟨ad131, e131, hx131_0⟩ := Kd.at_int HR0.out (ji18) p131 q131; obtain rfl : ad127 = ad131 := (by injection e131); replace hx131_0 := (HB.out.cell (World.block_lt_of_cell? w _ hx131_0)).trans hx131_0; replace p131 := eq_true p131; replace q131 := eq_true q131))
                                        go_ret
                                        exact ⟨by first | rfl | (simp [errW_none, errW_some] <;> rfl) | (simp only [← hji8, ← hji12, ← hji18]; first | rfl | (simp [errW_none, errW_some] <;> rfl)) | (simp [*, errW_none, errW_some] <;> rfl), by repeat (first | (with_reducible first | exact HB.out | apply below_alloc | apply pw_below_drewN | apply below_drew1) | exact HB.out)⟩
                                      · rw [if_neg c41] at H
                                        have c41b0 : ((wrap64 (rd l0 (ji18))) == 47) = false := beq_eq_false_iff_ne.mpr c41
                                        have c41b1 : ((wrap64 (rd l0 (ji18))) != 47) = true := bne_iff_ne.mpr c41
                                        obtain rfl := Option.some.inj H
                                        have p127 : 0 ≤ (a1 : Int) := of_decide_eq_true (by first | (with_reducible assumption) | assumption)
                                        have q127 : a1 < (l0.length : Int) := of_decide_eq_true (by first | (with_reducible assumption) | assumption)
                                        obtain ⟨ad127, e127, hx127_0⟩ := Kd.at_int HR0.out a1 p127 q127
                                        cases e127
                                        replace p127 := eq_true p127
                                        replace q127 := eq_true q127
                                        have p128 : 0 ≤ ((ji8) : Int) := of_decide_eq_true (by first | (with_reducible assumption) | assumption)
                                        have q128 : (ji8) < (l0.length : Int) := of_decide_eq_true (by first | (with_reducible assumption) | assumption)
                                        obtain ⟨ad128, e128, hx128_0⟩ := Kd.at_int HR0.out (ji8) p128 q128
                                        obtain rfl : ad127 = ad128 := (by injection e128)
                                        replace p128 := eq_true p128
                                        replace q128 := eq_true q128
                                        obtain ⟨i045, hi045, _, hsz45, _⟩ := info_parts info5
                                        obtain ⟨A45, hcut45, hA45, hC45⟩ := print_mid_of (P := Try.prog) (Value.int .u8) 0 22 5 .i64 .i64 Try.underlying22 hi045 hsz45 (some ad127) c0 l0 (ji12) (ji18) (of_decide_eq_true (by first | (with_reducible assumption) | assumption)) (by first | omega | exact of_decide_eq_true (by first | (with_reducible assumption) | assumption)) (of_decide_eq_true (by first | (with_reducible assumption) | assumption)) HC0.out
                                        have HR129 := Aside0.mk (Kd.C_of_reads (h1 := fun _ => rfl) (hA45 _ (Kd.reads_of_C HR0.out)))
                                        have HC129 := Aside0.mk hC45
                                        clear hA45 hC45 hi045 hsz45
                                        have hcv46 := Kd.C_string (P := Try.prog) (A := A45) (c := (c0 - (ji12).toNat)) Try.underlying22 Try.underlying5 Try.underlying9 HR129.out
                                        have hcw46 := hcv46
                                        (try simp only [Int.reduceToNat] at hcw46)
                                        (try rw [show ((l0.take ((ji18) : Int).toNat).drop ((ji12) : Int).toNat).length = ((ji18).toNat - (ji12).toNat) from (by rw [List.length_drop, List.length_take]; have h_ : ((ji18) : Int) ≤ (l0.length : Int) := of_decide_eq_true (by first | (with_reducible assumption) | assumption); omega)] at hcw46)
                                        go_enter Try.func19, Try.ntmps19
                                        go_wp2_with (first | (go_at_call 28; (with_reducible refine (decanterref03_Small.calls k (strOfNums ((l0.take ((ji18) : Int).toNat).drop ((ji12) : Int).toNat)) t130 _ A16.out).mono ?_); rintro e w47 ⟨rfl, hb⟩; have n0_ := Aside0.mk (below_step (by repeat (first | (with_reducible first | exact HB.out | apply below_alloc | apply pw_below_drewN | apply below_drew1) | exact HB.out)) hb); clear HB; have HB := n0_; clear n0_; (try clear hb); (try clear hb2); (try clear hk); (try clear hi); have p131 : 0 ≤ ((ji18) : Int) := of_decide_eq_true (by first | (with_reducible assumption) | assumption); have q131 : (ji18) < (l0.length : Int) := of_decide_eq_true (by first | (with_reducible assumption) | assumption); obtain ⟨ad131, e131, hx131_0⟩ := Kd.at_int HR0.out (ji18) p131 q131; obtain rfl : ad127 = ad131 := (by injection e131); replace hx131_0 := (HB.out.cell (World.block_lt_of_cell? w _ hx131_0)).trans hx131_0; replace p131 := eq_true p131; replace q131 := eq_true q131))
                                        go_ret
                                        exact ⟨by first | rfl | (simp [errW_none, errW_some] <;> rfl) | (simp only [← hji8, ← hji12, ← hji18]; first | rfl | (simp [errW_none, errW_some] <;> rfl)) | (simp [*, errW_none, errW_some] <;> rfl), by repeat (first | (with_reducible first | exact HB.out | apply below_alloc | apply pw_below_drewN | apply below_drew1) | exact HB.out)⟩
                          · rw [if_neg c20] at H
                            exact absurd H (by simp)
                        · rw [if_neg c19] at H
                          exact absurd H (by simp)
                      · rw [if_neg c17] at H
                        have c17b0 : (t130.toList == a2.toList) = false := beq_eq_false_iff_ne.mpr c17
                        have c17b1 : (t130.toList != a2.toList) = true := bne_iff_ne.mpr c17
                        obtain rfl := Option.some.inj H
                        have p127 : 0 ≤ (a1 : Int) := of_decide_eq_true (by first | (with_reducible assumption) | assumption)
                        have q127 : a1 < (l0.length : Int) := of_decide_eq_true (by first | (with_reducible assumption) | assumption)
                        obtain ⟨ad127, e127, hx127_0⟩ := Kd.at_int HR0.out a1 p127 q127
                        cases e127
                        replace p127 := eq_true p127
                        replace q127 := eq_true q127
                        have p128 : 0 ≤ ((ji8) : Int) := of_decide_eq_true (by first | (with_reducible assumption) | assumption)
                        have q128 : (ji8) < (l0.length : Int) := of_decide_eq_true (by first | (with_reducible assumption) | assumption)
                        obtain ⟨ad128, e128, hx128_0⟩ := Kd.at_int HR0.out (ji8) p128 q128
                        obtain rfl : ad127 = ad128 := (by injection e128)
                        replace p128 := eq_true p128
                        replace q128 := eq_true q128
                        obtain ⟨i048, hi048, _, hsz48, _⟩ := info_parts info5
                        obtain ⟨A48, hcut48, hA48, hC48⟩ := print_mid_of (P := Try.prog) (Value.int .u8) 0 22 5 .i64 .i64 Try.underlying22 hi048 hsz48 (some ad127) c0 l0 (ji12) (wrap64 ((ji12) + (a2.size : Int))) (of_decide_eq_true (by first | (with_reducible assumption) | assumption)) (by first | omega | exact of_decide_eq_true (by first | (with_reducible assumption) | assumption)) (of_decide_eq_true (by first | (with_reducible assumption) | assumption)) HC0.out
                        have HR129 := Aside0.mk (Kd.C_of_reads (h1 := fun _ => rfl) (hA48 _ (Kd.reads_of_C HR0.out)))
                        have HC129 := Aside0.mk hC48
                        clear hA48 hC48 hi048 hsz48
                        have hcv49 := Kd.C_string (P := Try.prog) (A := A48) (c := (c0 - (ji12).toNat)) Try.underlying22 Try.underlying5 Try.underlying9 HR129.out
                        have hcw49 := hcv49
                        (try simp only [Int.reduceToNat] at hcw49)
                        (try rw [show ((l0.take ((wrap64 ((ji12) + (a2.size : Int))) : Int).toNat).drop ((ji12) : Int).toNat).length = ((wrap64 ((ji12) + (a2.size : Int))).toNat - (ji12).toNat) from (by rw [List.length_drop, List.length_take]; have h_ : ((wrap64 ((ji12) + (a2.size : Int))) : Int) ≤ (l0.length : Int) := of_decide_eq_true (by first | (with_reducible assumption) | assumption); omega)] at hcw49)
                        go_enter Try.func19, Try.ntmps19
                        go_wp2_with (first | (go_at_call 28; (with_reducible refine (decanterref03_Small.calls k (strOfNums ((l0.take ((wrap64 ((ji12) + (a2.size : Int))) : Int).toNat).drop ((ji12) : Int).toNat)) t130 _ A16.out).mono ?_); rintro e w50 ⟨rfl, hb⟩; have n0_ := Aside0.mk (below_step (by repeat (first | (with_reducible first | exact HB.out | apply below_alloc | apply pw_below_drewN | apply below_drew1) | exact HB.out)) hb); clear HB; have HB := n0_; clear n0_; (try clear hb); (try clear hb2); (try clear hk); (try clear hi)))
                        go_ret
                        exact ⟨by first | rfl | (simp [errW_none, errW_some] <;> rfl) | (simp only [← hji8, ← hji12]; first | rfl | (simp [errW_none, errW_some] <;> rfl)) | (simp [*, errW_none, errW_some] <;> rfl), by repeat (first | (with_reducible first | exact HB.out | apply below_alloc | apply pw_below_drewN | apply below_drew1) | exact HB.out)⟩
                    · rw [if_neg c15] at H
                      exact absurd H (by simp)
                  · rw [if_neg c14] at H
                    exact absurd H (by simp)
                · rw [if_neg c13] at H
                  exact absurd H (by simp)
              · rw [if_neg c11] at H
                have c11b0 : ((rd l0 (ji8)) == 47) = false := beq_eq_false_iff_ne.mpr c11
                have c11b1 : ((rd l0 (ji8)) != 47) = true := bne_iff_ne.mpr c11
                obtain rfl := Option.some.inj H
                have p127 : 0 ≤ (a1 : Int) := of_decide_eq_true (by first | (with_reducible assumption) | assumption)
                have q127 : a1 < (l0.length : Int) := of_decide_eq_true (by first | (with_reducible assumption) | assumption)
                obtain ⟨ad127, e127, hx127_0⟩ := Kd.at_int HR0.out a1 p127 q127
                cases e127
                replace p127 := eq_true p127
                replace q127 := eq_true q127
                have p128 : 0 ≤ ((ji8) : Int) := of_decide_eq_true (by first | (with_reducible assumption) | assumption)
                have q128 : (ji8) < (l0.length : Int) := of_decide_eq_true (by first | (with_reducible assumption) | assumption)
                obtain ⟨ad128, e128, hx128_0⟩ := Kd.at_int HR0.out (ji8) p128 q128
                obtain rfl : ad127 = ad128 := (by injection e128)
                replace p128 := eq_true p128
                replace q128 := eq_true q128
                go_enter Try.func19, Try.ntmps19
                go_wp2
                go_ret
                exact ⟨by first | rfl | (simp [errW_none, errW_some] <;> rfl) | (simp only [← hji8]; first | rfl | (simp [errW_none, errW_some] <;> rfl)) | (simp [*, errW_none, errW_some] <;> rfl), by repeat (first | (with_reducible first | exact HB.out | apply below_alloc | apply pw_below_drewN | apply below_drew1) | exact HB.out)⟩
            · rw [if_neg c10] at H
              exact absurd H (by simp)
          · rw [if_neg c9] at H
            exact absurd H (by simp)
        · rw [if_neg c7] at H
          have c7b0 : ((rd l0 a1) == 60) = false := beq_eq_false_iff_ne.mpr c7
          have c7b1 : ((rd l0 a1) != 60) = true := bne_iff_ne.mpr c7
          obtain rfl := Option.some.inj H
          have p127 : 0 ≤ (a1 : Int) := of_decide_eq_true (by first | (with_reducible assumption) | assumption)
          have q127 : a1 < (l0.length : Int) := of_decide_eq_true (by first | (with_reducible assumption) | assumption)
          obtain ⟨ad127, e127, hx127_0⟩ := Kd.at_int HR0.out a1 p127 q127
          cases e127
          replace p127 := eq_true p127
          replace q127 := eq_true q127
          go_enter Try.func19, Try.ntmps19
          go_wp2
          go_ret
          exact ⟨by first | rfl | (simp [errW_none, errW_some] <;> rfl) | (simp [*, errW_none, errW_some] <;> rfl), by repeat (first | (with_reducible first | exact HB.out | apply below_alloc | apply pw_below_drewN | apply below_drew1) | exact HB.out)⟩
      · rw [if_neg c6] at H
        exact absurd H (by simp)
    · rw [if_neg c5] at H
      exact absurd H (by simp)

/-! ### decanterref09_End: function 11 -/
def decanterref09_End.l0 : Nat → List Int → Int → ByteArray → Int → Option (Int)
  | 0, _, _, _, _ => none
  | k + 1, x0, x1, x2, x7 => if x1 < (x0.length : Int) then (if x7 = 3 then (decanterref09_End.l0 k x0 (wrap64 (x1 + 1)) x2 x7) else ((decanterref09_ends.f k x0 x1 x2).bind fun t133 => (if t133 = true then (some x1) else (decanterref09_End.l0 k x0 (wrap64 (x1 + 1)) x2 x7)))) else (some x1)
def decanterref09_End.f (k : Nat) (l0 : List Int) (a1 : Int) (a2 : ByteArray) : Option (Int) := (decanterref09_Kind.f k a2).bind fun t132 => (if t132 = 0 then (some a1) else (decanterref09_End.l0 k l0 a1 a2 t132))
theorem decanterref09_End.mono_l : ∀ k, (∀ y0 y1 y2 y3, LeO (decanterref09_End.l0 k y0 y1 y2 y3) (decanterref09_End.l0 (k + 1) y0 y1 y2 y3))
  | 0 => fun _ _ _ _ r h => by simp [decanterref09_End.l0] at h
  | k + 1 => by
    have ih0 := decanterref09_End.mono_l k
    · intro y0 y1 y2 y3
      unfold decanterref09_End.l0
      repeat' first
      | (with_reducible exact ih0 _ _ _ _)
      | (with_reducible exact decanterref09_Kind.mono _ _)
      | (with_reducible exact decanterref09_ends.mono _ _ _ _)
      | (with_reducible exact LeO.refl _)
      | (with_reducible exact LeO.none _)
      | (with_reducible refine LeO.ite ?_ ?_)
      | (with_reducible refine LeO.bind ?_ (fun _ => ?_))
      | exact ih0 _ _ _ _
      | exact decanterref09_Kind.mono _ _
      | exact decanterref09_ends.mono _ _ _ _
      | exact LeO.none _
      | refine LeO.ite ?_ ?_
      | refine LeO.bind ?_ (fun _ => ?_)
theorem decanterref09_End.mono : ∀ a0 a1 a2 k, LeO (decanterref09_End.f k a0 a1 a2) (decanterref09_End.f (k + 1) a0 a1 a2) := by
  intro a0 a1 a2 k
  have ih0 := decanterref09_End.mono_l k
  unfold decanterref09_End.f
  repeat' first
      | (with_reducible exact ih0 _ _ _ _)
      | (with_reducible exact decanterref09_Kind.mono _ _)
      | (with_reducible exact decanterref09_ends.mono _ _ _ _)
      | (with_reducible exact LeO.refl _)
      | (with_reducible exact LeO.none _)
      | (with_reducible refine LeO.ite ?_ ?_)
      | (with_reducible refine LeO.bind ?_ (fun _ => ?_))
      | exact ih0 _ _ _ _
      | exact decanterref09_Kind.mono _ _
      | exact decanterref09_ends.mono _ _ _ _
      | exact LeO.none _
      | refine LeO.ite ?_ ?_
      | refine LeO.bind ?_ (fun _ => ?_)
set_option maxHeartbeats 8000000 in
set_option maxRecDepth 100000 in
theorem decanterref09_End.calls (k : Nat) (A0 : Option Addr) (c0 : Nat) (l0 : List Int) (a1 : Int) (a2 : ByteArray) (r : Int) (w : World) (hr0 : Kd.C (Kd.int .u8) w A0 l0.length l0) (hc0 : l0.length ≤ c0) (h : decanterref09_End.f k l0 a1 a2 = some r) :
    Calls Try.prog 11 #[.slice A0 l0.length c0, .int .i64 a1, .string a2] w fun e w' => e = .returned (.int .i64 r) ∧ Below w.heap.size w w' := by
  have HR0 := Aside0.mk hr0
  have HC0 := Aside0.mk hc0
  clear hr0 hc0
  have HB := Aside0.mk (Below.refl w.heap.size w)
  have H : ((decanterref09_Kind.f k a2).bind fun t132 => (if t132 = 0 then (some a1) else (decanterref09_End.l0 k l0 a1 a2 t132))) = some r := h
  clear h
  replace H := Option.bind_eq_some_iff.mp H
  obtain ⟨t132, A40, H⟩ := H
  replace H : (if t132 = 0 then (some a1) else (decanterref09_End.l0 k l0 a1 a2 t132)) = some r := H
  have A4 := Aside0.mk A40
  clear A40
  by_cases c5 : t132 = 0
  · rw [if_pos c5] at H
    have c5b0 : (t132 == 0) = true := beq_iff_eq.mpr c5
    have c5b1 : (t132 != 0) = false := bne_eq_false_iff_eq.mpr c5
    clear c5
    obtain rfl := Option.some.inj H
    go_enter Try.func11, Try.ntmps11
    go_wp2_with (first | ((with_reducible refine gate_callee (f := 13) rfl ?_); refine goesL_ (some 9) rfl rfl Try.func13 (by kernel_rfl) rfl #[.string a2] rfl (by (try simp only [List.map_toArray, List.map_cons, List.map_nil]); first | done | rfl | (simp only [List.length_drop, List.length_take]; rfl)) ?_; (with_reducible refine (decanterref09_Kind.calls k a2 t132 _ A4.out).mono ?_); rintro e w6 ⟨rfl, hb⟩; refine ⟨_, rfl, ?_⟩; have n0_ := Aside0.mk (below_step (by repeat (first | (with_reducible first | exact HB.out | apply below_alloc | apply pw_below_drewN | apply below_drew1) | exact HB.out)) hb); clear HB; have HB := n0_; clear n0_; (try clear hb); (try clear hb2); (try clear hk); (try clear hi)))
    go_ret
    exact ⟨by first | rfl | (simp [errW_none, errW_some] <;> rfl) | (simp [*, errW_none, errW_some] <;> rfl), by repeat (first | (with_reducible first | exact HB.out | apply below_alloc | apply pw_below_drewN | apply below_drew1) | exact HB.out)⟩
  · rw [if_neg c5] at H
    have c5b0 : (t132 == 0) = false := beq_eq_false_iff_ne.mpr c5
    have c5b1 : (t132 != 0) = true := bne_iff_ne.mpr c5
    have H' := Aside0.mk H
    clear H
    go_enter Try.func11, Try.ntmps11
    go_wp2_with (first | ((with_reducible refine gate_callee (f := 13) rfl ?_); refine goesL_ (some 9) rfl rfl Try.func13 (by kernel_rfl) rfl #[.string a2] rfl (by (try simp only [List.map_toArray, List.map_cons, List.map_nil]); first | done | rfl | (simp only [List.length_drop, List.length_take]; rfl)) ?_; (with_reducible refine (decanterref09_Kind.calls k a2 t132 _ A4.out).mono ?_); rintro e w7 ⟨rfl, hb⟩; refine ⟨_, rfl, ?_⟩; have n0_ := Aside0.mk (below_step (by repeat (first | (with_reducible first | exact HB.out | apply below_alloc | apply pw_below_drewN | apply below_drew1) | exact HB.out)) hb); clear HB; have HB := n0_; clear n0_; (try clear hb); (try clear hb2); (try clear hk); (try clear hi)))
    go_loopg [1] k (fun kq v1 w' => ∃ (x1_1 : Int), v1 = .int .i64 x1_1 ∧ Aside0 (decanterref09_End.l0 kq l0 x1_1 a2 t132 = some r) ∧ Aside0 (kq ≤ k) ∧ Aside0 (Below w.heap.size w w'))
    case atStart => exact ⟨(a1), (by first | rfl | (simp; done) | (simp [*]; done)), H', ⟨Nat.le_refl _⟩, ⟨by repeat (first | (with_reducible first | exact HB.out | apply below_alloc | apply pw_below_drewN | apply below_drew1) | exact HB.out)⟩⟩
    case round =>
      clear H'
      try clear c1
      try clear p2
      try clear c5
      try clear c5b0
      try clear c5b1
      obtain ⟨x1_1, rfl, HA, HK1, HB⟩ := hrel
      cases gk with
      | zero => exact absurd HA.out (by simp [decanterref09_End.l0])
      | succ k1 =>
        have H := HA.out
        clear HA
        simp only [decanterref09_End.l0] at H
        by_cases c8 : x1_1 < (l0.length : Int)
        · rw [if_pos c8] at H
          have c8b0 : decide (x1_1 < (l0.length : Int)) = true := decide_eq_true c8
          clear c8
          by_cases c9 : t132 = 3
          · rw [if_pos c9] at H
            have c9b0 : (t132 == 3) = true := beq_iff_eq.mpr c9
            have c9b1 : (t132 != 3) = false := bne_eq_false_iff_eq.mpr c9
            clear c9
            have H' := Aside0.mk H
            clear H
            go_wp2
            go_roundg k1
            case measure => have := HK1.out; omega
            case rel => exact ⟨(wrap64 (x1_1 + 1)), (by first | rfl | (simp; done) | (simp [*]; done)), H', ⟨by have := HK1.out; omega⟩, ⟨by repeat (first | (with_reducible first | exact HB.out | apply below_alloc | apply pw_below_drewN | apply below_drew1) | exact HB.out)⟩⟩
          · rw [if_neg c9] at H
            have c9b0 : (t132 == 3) = false := beq_eq_false_iff_ne.mpr c9
            have c9b1 : (t132 != 3) = true := bne_iff_ne.mpr c9
            replace H := Option.bind_eq_some_iff.mp H
            obtain ⟨t133, A100, H⟩ := H
            replace H : (if t133 = true then (some x1_1) else (decanterref09_End.l0 k1 l0 (wrap64 (x1_1 + 1)) a2 t132)) = some r := H
            have A10 := Aside0.mk A100
            clear A100
            by_cases c11 : t133 = true
            · subst c11
              have H1 : (some x1_1) = some r := by rw [if_pos rfl] at H; exact H
              clear H
              have H := H1
              clear H1
              obtain rfl := Option.some.inj H
              go_wp2_with (first | (go_at_call 19; (with_reducible refine (decanterref09_ends.calls k1 _ _ l0 x1_1 a2 true _ ?side1 ?side2 A10.out).mono ?_); (case side1 => repeat (first | exact (Kd.C_below HR0.out HB.out) | (with_reducible refine Kd.C_alloc ?_ _) | (with_reducible refine Kd.C_drewN ?_ _) | (with_reducible refine Kd.C_drew ?_))); (case side2 => exact HC0.out); rintro e w12 ⟨rfl, hb⟩; have n0_ := Aside0.mk (below_step (by repeat (first | (with_reducible first | exact HB.out | apply below_alloc | apply pw_below_drewN | apply below_drew1) | exact HB.out)) hb); clear HB; have HB := n0_; clear n0_; (try clear hb); (try clear hb2); (try clear hk); (try clear hi)))
              go_ret
              exact ⟨by first | rfl | (simp [errW_none, errW_some] <;> rfl) | (simp [*, errW_none, errW_some] <;> rfl), by repeat (first | (with_reducible first | exact HB.out | apply below_alloc | apply pw_below_drewN | apply below_drew1) | exact HB.out)⟩
            · replace c11 := Bool.eq_false_iff.mpr c11
              subst c11
              have H1 : (decanterref09_End.l0 k1 l0 (wrap64 (x1_1 + 1)) a2 t132) = some r := by rw [if_neg (show ¬ (false = true) by decide)] at H; exact H
              clear H
              have H := H1
              clear H1
              have H' := Aside0.mk H
              clear H
              go_wp2_with (first | (go_at_call 19; (with_reducible refine (decanterref09_ends.calls k1 _ _ l0 x1_1 a2 false _ ?side1 ?side2 A10.out).mono ?_); (case side1 => repeat (first | exact (Kd.C_below HR0.out HB.out) | (with_reducible refine Kd.C_alloc ?_ _) | (with_reducible refine Kd.C_drewN ?_ _) | (with_reducible refine Kd.C_drew ?_))); (case side2 => exact HC0.out); rintro e w13 ⟨rfl, hb⟩; have n0_ := Aside0.mk (below_step (by repeat (first | (with_reducible first | exact HB.out | apply below_alloc | apply pw_below_drewN | apply below_drew1) | exact HB.out)) hb); clear HB; have HB := n0_; clear n0_; (try clear hb); (try clear hb2); (try clear hk); (try clear hi)))
              go_roundg k1
              case measure => have := HK1.out; omega
              case rel => exact ⟨(wrap64 (x1_1 + 1)), (by first | rfl | (simp; done) | (simp [*]; done)), H', ⟨by have := HK1.out; omega⟩, ⟨by repeat (first | (with_reducible first | exact HB.out | apply below_alloc | apply pw_below_drewN | apply below_drew1) | exact HB.out)⟩⟩
        · rw [if_neg c8] at H
          have c8b0 : decide (x1_1 < (l0.length : Int)) = false := decide_eq_false c8
          clear c8
          obtain rfl := Option.some.inj H
          go_wp2
          go_ret
          exact ⟨by first | rfl | (simp [errW_none, errW_some] <;> rfl) | (simp [*, errW_none, errW_some] <;> rfl), by repeat (first | (with_reducible first | exact HB.out | apply below_alloc | apply pw_below_drewN | apply below_drew1) | exact HB.out)⟩

/-! ### decanterlaw09_RawEnds: function 3 -/
mutual
def decanterlaw09_RawEnds.j0 : Nat → List Int → ByteArray → Bool → Option (Bool)
  | 0, _, _, _ => none
  | k + 1, x0, x1, x17 => if x17 = true then ((decanterlaw09_speaks.f).bind fun t135 => (some t135)) else (decanterlaw09_RawEnds.l0 k x0 x1 (wrap64 ((x0.length : Int) + 1)) 0)
def decanterlaw09_RawEnds.l0 : Nat → List Int → ByteArray → Int → Int → Option (Bool)
  | 0, _, _, _, _ => none
  | k + 1, x0, x1, x21, x22 => if x22 < x21 then ((raw_End.f k x0 x22 x1).bind fun t138 => ((decanterref09_End.f k x0 x22 x1).bind fun t139 => (if t138 = t139 then (decanterlaw09_RawEnds.l0 k x0 x1 x21 (wrap64 (x22 + 1))) else (some false)))) else ((raw_Kind.f k x1).bind fun t136 => ((decanterref09_Kind.f k x1).bind fun t137 => (some (t136 == t137))))
end
def decanterlaw09_RawEnds.f (k : Nat) (l0 : List Int) (a1 : ByteArray) : Option (Bool) := (decanterlaw09_speaks.f).bind fun t134 => (if t134 = true then (if (l0.length : Int) > 300 then (decanterlaw09_RawEnds.j0 k l0 a1 true) else (decanterlaw09_RawEnds.j0 k l0 a1 (decide ((a1.size : Int) > 40)))) else (decanterlaw09_RawEnds.j0 k l0 a1 true))
theorem decanterlaw09_RawEnds.mono_l : ∀ k, (∀ y0 y1 y2, LeO (decanterlaw09_RawEnds.j0 k y0 y1 y2) (decanterlaw09_RawEnds.j0 (k + 1) y0 y1 y2)) ∧ (∀ y0 y1 y2 y3, LeO (decanterlaw09_RawEnds.l0 k y0 y1 y2 y3) (decanterlaw09_RawEnds.l0 (k + 1) y0 y1 y2 y3))
  | 0 => ⟨fun _ _ _ r h => by simp [decanterlaw09_RawEnds.j0] at h, fun _ _ _ _ r h => by simp [decanterlaw09_RawEnds.l0] at h⟩
  | k + 1 => by
    obtain ⟨ih0, ih1⟩ := decanterlaw09_RawEnds.mono_l k
    refine ⟨?_, ?_⟩
    · intro y0 y1 y2
      unfold decanterlaw09_RawEnds.j0
      repeat' first
      | (with_reducible exact ih0 _ _ _)
      | (with_reducible exact ih1 _ _ _ _)
      | (with_reducible exact decanterref09_End.mono _ _ _ _)
      | (with_reducible exact decanterref09_Kind.mono _ _)
      | (with_reducible exact raw_End.mono _ _ _ _)
      | (with_reducible exact raw_Kind.mono _ _)
      | (with_reducible exact LeO.refl _)
      | (with_reducible exact LeO.none _)
      | (with_reducible refine LeO.ite ?_ ?_)
      | (with_reducible refine LeO.bind ?_ (fun _ => ?_))
      | exact ih0 _ _ _
      | exact ih1 _ _ _ _
      | exact decanterref09_End.mono _ _ _ _
      | exact decanterref09_Kind.mono _ _
      | exact raw_End.mono _ _ _ _
      | exact raw_Kind.mono _ _
      | exact LeO.none _
      | refine LeO.ite ?_ ?_
      | refine LeO.bind ?_ (fun _ => ?_)
    · intro y0 y1 y2 y3
      unfold decanterlaw09_RawEnds.l0
      repeat' first
      | (with_reducible exact ih0 _ _ _)
      | (with_reducible exact ih1 _ _ _ _)
      | (with_reducible exact decanterref09_End.mono _ _ _ _)
      | (with_reducible exact decanterref09_Kind.mono _ _)
      | (with_reducible exact raw_End.mono _ _ _ _)
      | (with_reducible exact raw_Kind.mono _ _)
      | (with_reducible exact LeO.refl _)
      | (with_reducible exact LeO.none _)
      | (with_reducible refine LeO.ite ?_ ?_)
      | (with_reducible refine LeO.bind ?_ (fun _ => ?_))
      | exact ih0 _ _ _
      | exact ih1 _ _ _ _
      | exact decanterref09_End.mono _ _ _ _
      | exact decanterref09_Kind.mono _ _
      | exact raw_End.mono _ _ _ _
      | exact raw_Kind.mono _ _
      | exact LeO.none _
      | refine LeO.ite ?_ ?_
      | refine LeO.bind ?_ (fun _ => ?_)
theorem decanterlaw09_RawEnds.mono : ∀ a0 a1 k, LeO (decanterlaw09_RawEnds.f k a0 a1) (decanterlaw09_RawEnds.f (k + 1) a0 a1) := by
  intro a0 a1 k
  obtain ⟨ih0, ih1⟩ := decanterlaw09_RawEnds.mono_l k
  unfold decanterlaw09_RawEnds.f
  repeat' first
      | (with_reducible exact ih0 _ _ _)
      | (with_reducible exact ih1 _ _ _ _)
      | (with_reducible exact decanterref09_End.mono _ _ _ _)
      | (with_reducible exact decanterref09_Kind.mono _ _)
      | (with_reducible exact raw_End.mono _ _ _ _)
      | (with_reducible exact raw_Kind.mono _ _)
      | (with_reducible exact LeO.refl _)
      | (with_reducible exact LeO.none _)
      | (with_reducible refine LeO.ite ?_ ?_)
      | (with_reducible refine LeO.bind ?_ (fun _ => ?_))
      | exact ih0 _ _ _
      | exact ih1 _ _ _ _
      | exact decanterref09_End.mono _ _ _ _
      | exact decanterref09_Kind.mono _ _
      | exact raw_End.mono _ _ _ _
      | exact raw_Kind.mono _ _
      | exact LeO.none _
      | refine LeO.ite ?_ ?_
      | refine LeO.bind ?_ (fun _ => ?_)
set_option maxHeartbeats 8000000 in
set_option maxRecDepth 100000 in
theorem decanterlaw09_RawEnds.calls (k : Nat) (A0 : Option Addr) (c0 : Nat) (l0 : List Int) (a1 : ByteArray) (r : Bool) (w : World) (hr0 : Kd.C (Kd.int .u8) w A0 l0.length l0) (hc0 : l0.length ≤ c0) (h : decanterlaw09_RawEnds.f k l0 a1 = some r) :
    Calls Try.prog 3 #[.slice A0 l0.length c0, .string a1] w fun e w' => e = .returned (.bool r) ∧ Below w.heap.size w w' := by
  have HR0 := Aside0.mk hr0
  have HC0 := Aside0.mk hc0
  clear hr0 hc0
  have HB := Aside0.mk (Below.refl w.heap.size w)
  have H : ((decanterlaw09_speaks.f).bind fun t134 => (if t134 = true then (if (l0.length : Int) > 300 then (decanterlaw09_RawEnds.j0 k l0 a1 true) else (decanterlaw09_RawEnds.j0 k l0 a1 (decide ((a1.size : Int) > 40)))) else (decanterlaw09_RawEnds.j0 k l0 a1 true))) = some r := h
  clear h
  have HC3 := Aside0.mk H
  clear H
  go_enter Try.func3, Try.ntmps3
  go_upto_region 1 with (fail)
  go_cut [17] (fun v17 wc => ∃ (kq : Nat) (x17_2 : Bool), v17 = .bool x17_2 ∧ Aside0 (decanterlaw09_RawEnds.j0 kq l0 a1 x17_2 = some r) ∧ Aside0 (kq ≤ k) ∧ Aside0 (Below w.heap.size w wc))
  case first =>
    have H := HC3.out
    clear HC3
    replace H := Option.bind_eq_some_iff.mp H
    obtain ⟨t134, A40, H⟩ := H
    replace H : (if t134 = true then (if (l0.length : Int) > 300 then (decanterlaw09_RawEnds.j0 k l0 a1 true) else (decanterlaw09_RawEnds.j0 k l0 a1 (decide ((a1.size : Int) > 40)))) else (decanterlaw09_RawEnds.j0 k l0 a1 true)) = some r := H
    have A4 := Aside0.mk A40
    clear A40
    by_cases c5 : t134 = true
    · subst c5
      have H1 : (if (l0.length : Int) > 300 then (decanterlaw09_RawEnds.j0 k l0 a1 true) else (decanterlaw09_RawEnds.j0 k l0 a1 (decide ((a1.size : Int) > 40)))) = some r := by rw [if_pos rfl] at H; exact H
      clear H
      have H := H1
      clear H1
      by_cases c6 : (l0.length : Int) > 300
      · rw [if_pos c6] at H
        have c6b0 : decide (300 < (l0.length : Int)) = true := decide_eq_true c6
        have c6b1 : decide (300 < l0.length) = true := decide_eq_true (by omega)
        clear c6
        (first | rw [c6b0] | (simp only [i64_w, i32_w]; rw [c6b0]) | skip)
        have H' := Aside0.mk H
        clear H
        go_wp2_with (first | ((with_reducible refine gate_callee (f := 9) rfl ?_); refine goesL_ (some 6) rfl rfl Try.func9 (by kernel_rfl) rfl #[] rfl (by (try simp only [List.map_toArray, List.map_cons, List.map_nil]); first | done | rfl | (simp only [List.length_drop, List.length_take]; rfl)) ?_; (with_reducible refine (decanterlaw09_speaks.calls  true _ A4.out).mono ?_); rintro e w7 ⟨rfl, hb⟩; refine ⟨_, rfl, ?_⟩; have n0_ := Aside0.mk (below_step (by repeat (first | (with_reducible first | exact HB.out | apply below_alloc | apply pw_below_drewN | apply below_drew1) | exact HB.out)) hb); clear HB; have HB := n0_; clear n0_; (try clear hb); (try clear hb2); (try clear hk); (try clear hi)))
        go_meet
        case rel => exact ⟨_, (true), (by first | rfl | (simp; done) | (simp [*]; done)), H', ⟨by first | omega | exact Nat.le_refl _⟩, ⟨by repeat (first | (with_reducible first | exact HB.out | apply below_alloc | apply pw_below_drewN | apply below_drew1) | exact HB.out)⟩⟩
      · rw [if_neg c6] at H
        have c6b0 : decide (300 < (l0.length : Int)) = false := decide_eq_false c6
        have c6b1 : decide (300 < l0.length) = false := decide_eq_false (by omega)
        clear c6
        (first | rw [c6b0] | (simp only [i64_w, i32_w]; rw [c6b0]) | skip)
        have H' := Aside0.mk H
        clear H
        go_wp2_with (first | ((with_reducible refine gate_callee (f := 9) rfl ?_); refine goesL_ (some 6) rfl rfl Try.func9 (by kernel_rfl) rfl #[] rfl (by (try simp only [List.map_toArray, List.map_cons, List.map_nil]); first | done | rfl | (simp only [List.length_drop, List.length_take]; rfl)) ?_; (with_reducible refine (decanterlaw09_speaks.calls  true _ A4.out).mono ?_); rintro e w8 ⟨rfl, hb⟩; refine ⟨_, rfl, ?_⟩; have n0_ := Aside0.mk (below_step (by repeat (first | (with_reducible first | exact HB.out | apply below_alloc | apply pw_below_drewN | apply below_drew1) | exact HB.out)) hb); clear HB; have HB := n0_; clear n0_; (try clear hb); (try clear hb2); (try clear hk); (try clear hi)))
        go_meet
        case rel => exact ⟨_, (decide ((a1.size : Int) > 40)), (by first | rfl | (simp; done) | (simp [*]; done)), H', ⟨by first | omega | exact Nat.le_refl _⟩, ⟨by repeat (first | (with_reducible first | exact HB.out | apply below_alloc | apply pw_below_drewN | apply below_drew1) | exact HB.out)⟩⟩
    · replace c5 := Bool.eq_false_iff.mpr c5
      subst c5
      have H1 : (decanterlaw09_RawEnds.j0 k l0 a1 true) = some r := by rw [if_neg (show ¬ (false = true) by decide)] at H; exact H
      clear H
      have H := H1
      clear H1
      have H' := Aside0.mk H
      clear H
      go_wp2_with (first | ((with_reducible refine gate_callee (f := 9) rfl ?_); refine goesL_ (some 6) rfl rfl Try.func9 (by kernel_rfl) rfl #[] rfl (by (try simp only [List.map_toArray, List.map_cons, List.map_nil]); first | done | rfl | (simp only [List.length_drop, List.length_take]; rfl)) ?_; (with_reducible refine (decanterlaw09_speaks.calls  false _ A4.out).mono ?_); rintro e w9 ⟨rfl, hb⟩; refine ⟨_, rfl, ?_⟩; have n0_ := Aside0.mk (below_step (by repeat (first | (with_reducible first | exact HB.out | apply below_alloc | apply pw_below_drewN | apply below_drew1) | exact HB.out)) hb); clear HB; have HB := n0_; clear n0_; (try clear hb); (try clear hb2); (try clear hk); (try clear hi)))
      go_meet
      case rel => exact ⟨_, (true), (by first | rfl | (simp; done) | (simp [*]; done)), H', ⟨by first | omega | exact Nat.le_refl _⟩, ⟨by repeat (first | (with_reducible first | exact HB.out | apply below_alloc | apply pw_below_drewN | apply below_drew1) | exact HB.out)⟩⟩
  case rest =>
    clear HC3
    try clear p2
    try clear c3
    try clear c5
    try clear c6
    try clear c6b0
    try clear c6b1
    try clear c9
    obtain ⟨kq, x17_2, rfl, HA, HJ2, HB⟩ := hcut
    cases kq with
    | zero => exact absurd HA.out (by simp [decanterlaw09_RawEnds.j0])
    | succ kj2 =>
      have H := HA.out
      clear HA
      simp only [decanterlaw09_RawEnds.j0] at H
      by_cases c10 : x17_2 = true
      · subst c10
        have H1 : ((decanterlaw09_speaks.f).bind fun t135 => (some t135)) = some r := by rw [if_pos rfl] at H; exact H
        clear H
        have H := H1
        clear H1
        replace H := Option.bind_eq_some_iff.mp H
        obtain ⟨t135, A110, H⟩ := H
        replace H : (some t135) = some r := H
        have A11 := Aside0.mk A110
        clear A110
        obtain rfl := Option.some.inj H
        go_wp2_with (first | ((with_reducible refine gate_callee (f := 9) rfl ?_); refine goesL_ (some 18) rfl rfl Try.func9 (by kernel_rfl) rfl #[] rfl (by (try simp only [List.map_toArray, List.map_cons, List.map_nil]); first | done | rfl | (simp only [List.length_drop, List.length_take]; rfl)) ?_; (with_reducible refine (decanterlaw09_speaks.calls  t135 _ A11.out).mono ?_); rintro e w12 ⟨rfl, hb⟩; refine ⟨_, rfl, ?_⟩; have n0_ := Aside0.mk (below_step (by repeat (first | (with_reducible first | exact HB.out | apply below_alloc | apply pw_below_drewN | apply below_drew1) | exact HB.out)) hb); clear HB; have HB := n0_; clear n0_; (try clear hb); (try clear hb2); (try clear hk); (try clear hi)))
        go_ret
        exact ⟨by first | rfl | (simp [errW_none, errW_some] <;> rfl) | (simp [*, errW_none, errW_some] <;> rfl), by repeat (first | (with_reducible first | exact HB.out | apply below_alloc | apply pw_below_drewN | apply below_drew1) | exact HB.out)⟩
      · replace c10 := Bool.eq_false_iff.mpr c10
        subst c10
        have H1 : (decanterlaw09_RawEnds.l0 kj2 l0 a1 (wrap64 ((l0.length : Int) + 1)) 0) = some r := by rw [if_neg (show ¬ (false = true) by decide)] at H; exact H
        clear H
        have H := H1
        clear H1
        have H' := Aside0.mk H
        clear H
        go_wp2
        go_loopg [22] kj2 (fun kq v22 w' => ∃ (x22_2 : Int), v22 = .int .i64 x22_2 ∧ Aside0 (decanterlaw09_RawEnds.l0 kq l0 a1 (wrap64 ((l0.length : Int) + 1)) x22_2 = some r) ∧ Aside0 (kq ≤ kj2) ∧ Aside0 (Below w.heap.size w w'))
        case atStart => exact ⟨(0), (by first | rfl | (simp; done) | (simp [*]; done)), H', ⟨Nat.le_refl _⟩, ⟨by repeat (first | (with_reducible first | exact HB.out | apply below_alloc | apply pw_below_drewN | apply below_drew1) | exact HB.out)⟩⟩
        case round =>
          clear H'
          try clear c1
          try clear p2
          try clear c3
          try clear c5
          try clear c6
          try clear c6b0
          try clear c6b1
          try clear p6
          try clear c9
          try clear c10
          try clear p2
          obtain ⟨x22_2, rfl, HA, HK2, HB⟩ := hrel
          cases gk with
          | zero => exact absurd HA.out (by simp [decanterlaw09_RawEnds.l0])
          | succ k2 =>
            have H := HA.out
            clear HA
            simp only [decanterlaw09_RawEnds.l0] at H
            by_cases c13 : x22_2 < (wrap64 ((l0.length : Int) + 1))
            · rw [if_pos c13] at H
              have c13b0 : decide (x22_2 < (wrap64 ((l0.length : Int) + 1))) = true := decide_eq_true c13
              clear c13
              replace H := Option.bind_eq_some_iff.mp H
              obtain ⟨t138, A140, H⟩ := H
              replace H : ((decanterref09_End.f k2 l0 x22_2 a1).bind fun t139 => (if t138 = t139 then (decanterlaw09_RawEnds.l0 k2 l0 a1 (wrap64 ((l0.length : Int) + 1)) (wrap64 (x22_2 + 1))) else (some false))) = some r := H
              have A14 := Aside0.mk A140
              clear A140
              replace H := Option.bind_eq_some_iff.mp H
              obtain ⟨t139, A150, H⟩ := H
              replace H : (if t138 = t139 then (decanterlaw09_RawEnds.l0 k2 l0 a1 (wrap64 ((l0.length : Int) + 1)) (wrap64 (x22_2 + 1))) else (some false)) = some r := H
              have A15 := Aside0.mk A150
              clear A150
              by_cases c16 : t138 = t139
              · rw [if_pos c16] at H
                have c16b0 : (t138 == t139) = true := beq_iff_eq.mpr c16
                have c16b1 : (t138 != t139) = false := bne_eq_false_iff_eq.mpr c16
                clear c16
                have H' := Aside0.mk H
                clear H
                go_wp2_with (first | ((with_reducible refine gate_callee (f := 10) rfl ?_); refine goesL_ (some 28) rfl rfl Try.func10 (by kernel_rfl) rfl #[.slice A0 l0.length c0, .int .i64 x22_2, .string a1] rfl (by (try simp only [List.map_toArray, List.map_cons, List.map_nil]); first | done | rfl | (simp only [List.length_drop, List.length_take]; rfl)) ?_; (with_reducible refine (raw_End.calls k2 _ _ l0 x22_2 a1 t138 _ ?side1 ?side2 A14.out).mono ?_); (case side1 => repeat (first | exact (Kd.C_below HR0.out HB.out) | (with_reducible refine Kd.C_alloc ?_ _) | (with_reducible refine Kd.C_drewN ?_ _) | (with_reducible refine Kd.C_drew ?_))); (case side2 => exact HC0.out); rintro e w17 ⟨rfl, hb⟩; refine ⟨_, rfl, ?_⟩; have n0_ := Aside0.mk (below_step (by repeat (first | (with_reducible first | exact HB.out | apply below_alloc | apply pw_below_drewN | apply below_drew1) | exact HB.out)) hb); clear HB; have HB := n0_; clear n0_; (try clear hb); (try clear hb2); (try clear hk); (try clear hi)) | ((with_reducible refine gate_callee (f := 11) rfl ?_); refine goesL_ (some 32) rfl rfl Try.func11 (by kernel_rfl) rfl #[.slice A0 l0.length c0, .int .i64 x22_2, .string a1] rfl (by (try simp only [List.map_toArray, List.map_cons, List.map_nil]); first | done | rfl | (simp only [List.length_drop, List.length_take]; rfl)) ?_; (with_reducible refine (decanterref09_End.calls k2 _ _ l0 x22_2 a1 t139 _ ?side1 ?side2 A15.out).mono ?_); (case side1 => repeat (first | exact (Kd.C_below HR0.out HB.out) | (with_reducible refine Kd.C_alloc ?_ _) | (with_reducible refine Kd.C_drewN ?_ _) | (with_reducible refine Kd.C_drew ?_))); (case side2 => exact HC0.out); rintro e w18 ⟨rfl, hb⟩; refine ⟨_, rfl, ?_⟩; have n0_ := Aside0.mk (below_step (by repeat (first | (with_reducible first | exact HB.out | apply below_alloc | apply pw_below_drewN | apply below_drew1) | exact HB.out)) hb); clear HB; have HB := n0_; clear n0_; (try clear hb); (try clear hb2); (try clear hk); (try clear hi)))
                go_roundg k2
                case measure => have := HJ2.out; have := HK2.out; omega
                case rel => exact ⟨(wrap64 (x22_2 + 1)), (by first | rfl | (simp; done) | (simp [*]; done)), H', ⟨by have := HJ2.out; have := HK2.out; omega⟩, ⟨by repeat (first | (with_reducible first | exact HB.out | apply below_alloc | apply pw_below_drewN | apply below_drew1) | exact HB.out)⟩⟩
              · rw [if_neg c16] at H
                have c16b0 : (t138 == t139) = false := beq_eq_false_iff_ne.mpr c16
                have c16b1 : (t138 != t139) = true := bne_iff_ne.mpr c16
                obtain rfl := Option.some.inj H
                go_wp2_with (first | ((with_reducible refine gate_callee (f := 10) rfl ?_); refine goesL_ (some 28) rfl rfl Try.func10 (by kernel_rfl) rfl #[.slice A0 l0.length c0, .int .i64 x22_2, .string a1] rfl (by (try simp only [List.map_toArray, List.map_cons, List.map_nil]); first | done | rfl | (simp only [List.length_drop, List.length_take]; rfl)) ?_; (with_reducible refine (raw_End.calls k2 _ _ l0 x22_2 a1 t138 _ ?side1 ?side2 A14.out).mono ?_); (case side1 => repeat (first | exact (Kd.C_below HR0.out HB.out) | (with_reducible refine Kd.C_alloc ?_ _) | (with_reducible refine Kd.C_drewN ?_ _) | (with_reducible refine Kd.C_drew ?_))); (case side2 => exact HC0.out); rintro e w19 ⟨rfl, hb⟩; refine ⟨_, rfl, ?_⟩; have n0_ := Aside0.mk (below_step (by repeat (first | (with_reducible first | exact HB.out | apply below_alloc | apply pw_below_drewN | apply below_drew1) | exact HB.out)) hb); clear HB; have HB := n0_; clear n0_; (try clear hb); (try clear hb2); (try clear hk); (try clear hi)) | ((with_reducible refine gate_callee (f := 11) rfl ?_); refine goesL_ (some 32) rfl rfl Try.func11 (by kernel_rfl) rfl #[.slice A0 l0.length c0, .int .i64 x22_2, .string a1] rfl (by (try simp only [List.map_toArray, List.map_cons, List.map_nil]); first | done | rfl | (simp only [List.length_drop, List.length_take]; rfl)) ?_; (with_reducible refine (decanterref09_End.calls k2 _ _ l0 x22_2 a1 t139 _ ?side1 ?side2 A15.out).mono ?_); (case side1 => repeat (first | exact (Kd.C_below HR0.out HB.out) | (with_reducible refine Kd.C_alloc ?_ _) | (with_reducible refine Kd.C_drewN ?_ _) | (with_reducible refine Kd.C_drew ?_))); (case side2 => exact HC0.out); rintro e w20 ⟨rfl, hb⟩; refine ⟨_, rfl, ?_⟩; have n0_ := Aside0.mk (below_step (by repeat (first | (with_reducible first | exact HB.out | apply below_alloc | apply pw_below_drewN | apply below_drew1) | exact HB.out)) hb); clear HB; have HB := n0_; clear n0_; (try clear hb); (try clear hb2); (try clear hk); (try clear hi)))
                go_ret
                exact ⟨by first | rfl | (simp [errW_none, errW_some] <;> rfl) | (simp [*, errW_none, errW_some] <;> rfl), by repeat (first | (with_reducible first | exact HB.out | apply below_alloc | apply pw_below_drewN | apply below_drew1) | exact HB.out)⟩
            · rw [if_neg c13] at H
              have c13b0 : decide (x22_2 < (wrap64 ((l0.length : Int) + 1))) = false := decide_eq_false c13
              clear c13
              replace H := Option.bind_eq_some_iff.mp H
              obtain ⟨t136, A210, H⟩ := H
              replace H : ((decanterref09_Kind.f k2 a1).bind fun t137 => (some (t136 == t137))) = some r := H
              have A21 := Aside0.mk A210
              clear A210
              replace H := Option.bind_eq_some_iff.mp H
              obtain ⟨t137, A220, H⟩ := H
              replace H : (some (t136 == t137)) = some r := H
              have A22 := Aside0.mk A220
              clear A220
              obtain rfl := Option.some.inj H
              go_wp2_with (first | ((with_reducible refine gate_callee (f := 12) rfl ?_); refine goesL_ (some 36) rfl rfl Try.func12 (by kernel_rfl) rfl #[.string a1] rfl (by (try simp only [List.map_toArray, List.map_cons, List.map_nil]); first | done | rfl | (simp only [List.length_drop, List.length_take]; rfl)) ?_; (with_reducible refine (raw_Kind.calls k2 a1 t136 _ A21.out).mono ?_); rintro e w' ⟨rfl, ⟨nd, rfl⟩⟩; refine ⟨_, rfl, ?_⟩) | ((with_reducible refine gate_callee (f := 13) rfl ?_); refine goesL_ (some 38) rfl rfl Try.func13 (by kernel_rfl) rfl #[.string a1] rfl (by (try simp only [List.map_toArray, List.map_cons, List.map_nil]); first | done | rfl | (simp only [List.length_drop, List.length_take]; rfl)) ?_; (with_reducible refine (decanterref09_Kind.calls k2 a1 t137 _ A22.out).mono ?_); rintro e w23 ⟨rfl, hb⟩; refine ⟨_, rfl, ?_⟩; have n0_ := Aside0.mk (below_step (by repeat (first | (with_reducible first | exact HB.out | apply below_alloc | apply pw_below_drewN | apply below_drew1) | exact HB.out)) hb); clear HB; have HB := n0_; clear n0_; (try clear hb); (try clear hb2); (try clear hk); (try clear hi)))
              go_ret
              exact ⟨by first | rfl | (simp [errW_none, errW_some] <;> rfl) | (simp [*, errW_none, errW_some] <;> rfl), by repeat (first | (with_reducible first | exact HB.out | apply below_alloc | apply pw_below_drewN | apply below_drew1) | exact HB.out)⟩

/-- THE ONE PURE STATEMENT of decanterlaw09_RawEnds: yours. -/
def decanterlaw09_RawEnds.Pure : Prop := ∀ (l0 : List Int) (a1 : ByteArray), l0.length ≤ maxLen → l0.length * 1 ≤ 140737488351232 → (∀ x ∈ l0, (Lit.int .u8 x).wf = true) → a1.size ≤ 140737488351232 → ∃ k, decanterlaw09_RawEnds.f k l0 a1 = some true
theorem decanterlaw09_RawEnds.walk (P : decanterlaw09_RawEnds.Pure) (a0 : Option Addr) (len0 cap0 : Nat) (z0 : List Int) (a1 : ByteArray) (w : World) (w0 : (a0 = none ∧ len0 = 0 ∧ cap0 = 0 ∧ z0 = []) ∨ ∃ x, a0 = some x ∧ len0 ≤ cap0 ∧ cap0 ≤ maxLen ∧ z0.length = cap0 ∧ (∀ i, i < z0.length → w.cell? (x.add i) = some (.int .u8 (z0.getD i 0))) ∧ ∀ n ∈ z0, (Lit.int .u8 n).wf = true) (y0 : len0 * 1 ≤ 140737488351232) (w1 : a1.size ≤ 140737488351232) :
    Calls Try.prog 3 #[.slice a0 len0 cap0, .string a1] w fun e w' => e = .returned (.bool true) ∧ Below w.heap.size w w' := by
  obtain ⟨l0, rfl, hr0, hm0, hw0, hc0⟩ := ReadsInt.ofRowC w0
  obtain ⟨k, h⟩ := P l0 a1 hm0 y0 hw0 w1
  refine (decanterlaw09_RawEnds.calls k _ _ l0 a1 true w (Kd.C_of_reads (d := (0 : Int)) (h1 := fun _ => rfl) hr0) hc0 h).mono ?_
  rintro e w' ⟨rfl, hd⟩
  exact ⟨rfl, hd⟩

end Go.Proofs.Ytdppomkilojmlaa.PRaw
