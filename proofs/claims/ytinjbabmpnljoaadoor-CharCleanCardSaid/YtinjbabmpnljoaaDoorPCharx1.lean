-- Laid by a program of this session (tools/patch_print.py) out of the translation. Not trusted: Lean checks it.
import Derived.Test.YtinjbabmpnljoaaDoorPCharx0
namespace Go.Proofs.YtinjbabmpnljoaaDoor.PChar
open Go.RowKit Go.Proofs.YtinjbabmpnljoaaDoorW.PrintWords Go.Proofs.YtinjbabmpnljoaaDoorW.PrintLast Go.Proofs.YtinjbabmpnljoaaDoorW.PrintMore
attribute [local go_sem] max2_int min2_int max_two min_two max_three min_three max_four min_four   -- for this text's walks alone
set_option linter.unusedVariables false
set_option linter.unusedSimpArgs false

/-- What the walks ask of a world: the two tables of UTF-8 lie in it. -/
def Wok (w : World) : Prop := Lib.Utf8Tabs 0 1 w
theorem Wok_below {w w' : World} (h : Wok w) (hb : Below w.heap.size w w') : Wok w' := Utf8Tabs_below h hb
def u8ren : Go.Shelf.Ren := ⟨fun n => n, fun | 5 => 5 | 119 => 53 | 138 => 55 | 139 => 56 | n => n, fun | 3 => 0 | 4 => 1 | n => n⟩
theorem u8types : U8Types Tryd.prog u8ren := { t5 := Tryd.underlying5, t119 := Tryd.underlying53, t138 := Tryd.underlying55, t139 := Tryd.underlying56 }
theorem u8extra : U8Extra Tryd.prog u8ren := { n3 := by kernel_rfl, n4 := by kernel_rfl, y3 := by kernel_rfl, y4 := by kernel_rfl, c5 := by kernel_rfl, c119 := by kernel_rfl, c138 := by kernel_rfl }
theorem Wok_of_laid {W : World} (h : laidMetH Tryd.prog Rows.charNextRow.laid W) : Wok W := by
  rw [MakeChecks.laidMetH_plain _ _ _ (by kernel_rfl)] at h
  exact utf8Tabs_of_readsT u8types u8extra ((show Rows.laid_unicode_utf8_first = Lib.firstData by kernel_rfl) ▸ Lib.laidMet.reads h (List.mem_cons_of_mem _ (List.mem_cons_self ..))) ((show (Rows.laid_unicode_utf8_acceptRanges : DataW Unit) = Lib.acceptData by kernel_rfl) ▸ Lib.laidMet.reads h (List.mem_cons_self ..))

/-! ### utf8_DecodeRune: function 30 -/
def utf8_DecodeRune.inB (x : Int) : Bool := decide (0 ≤ x) && decide (x ≤ 255)
def utf8_DecodeRune.f (l0 : List Int) : Option (Int × Int) := if l0.isEmpty = false ∧ l0.all utf8_DecodeRune.inB = true ∧ l0.length ≤ 9223372036854775807 then some (((Lib.decodeGo (strOfNums l0)).1 : Int), ((Lib.decodeGo (strOfNums l0)).2 : Int)) else none
theorem utf8_DecodeRune.get_byte (l : List Int) (hb : l.all utf8_DecodeRune.inB = true) (j : Nat) (hj : j < l.length) : (((strOfNums l).get! j).toNat : Int) = l.getD j 0 := by
  have hs : j < (strOfNums l).size := by rw [strOfNums_size]; exact hj
  have e : (strOfNums l).get! j = (strOfNums l)[j]'hs := by
    show (strOfNums l).get! j = _
    simp [ByteArray.get!, getElem!_pos, hs]
    rfl
  have hr := List.all_eq_true.1 hb _ (List.getElem_mem hj)
  unfold utf8_DecodeRune.inB at hr
  rw [Bool.and_eq_true, decide_eq_true_eq, decide_eq_true_eq] at hr
  rw [e, List.getD_eq_getElem?_getD, List.getElem?_eq_getElem hj]
  have e2 : (strOfNums l)[j]'hs = UInt8.ofNat (l[j]).toNat := by
    have h1 : (strOfNums l).data.toList[j]? = some (UInt8.ofNat (l[j]).toNat) := by
      show (l.map fun n => UInt8.ofNat n.toNat)[j]? = _
      rw [List.getElem?_map, List.getElem?_eq_getElem hj]
      rfl
    have h2 : (strOfNums l).data.toList[j]? = some ((strOfNums l)[j]'hs) := by
      rw [List.getElem?_eq_getElem (show j < (strOfNums l).data.toList.length by rw [Array.length_toList]; exact hs)]
      exact congrArg some (Array.getElem_toList ..)
    exact Option.some.inj (h2.symm.trans h1)
  rw [e2, UInt8.toNat_ofNat', Option.getD_some]
  omega
theorem utf8_DecodeRune.calls (A0 : Option Addr) (c0 : Nat) (l0 : List Int) (r1 r2 : Int) (w : World) (hW : Wok w) (hr0 : Kd.C (Kd.int .u8) w A0 l0.length l0) (_hc0 : l0.length ≤ c0) (h : utf8_DecodeRune.f l0 = some (r1, r2)) :
    Calls Tryd.prog 30 #[.slice A0 l0.length c0] w fun e w' => e = .returned (.tuple #[.int .i32 r1, .int .i64 r2]) ∧ Below w.heap.size w w' := by
  unfold utf8_DecodeRune.f at h
  by_cases hc : l0.isEmpty = false ∧ l0.all utf8_DecodeRune.inB = true ∧ l0.length ≤ 9223372036854775807
  · rw [if_pos hc] at h
    obtain ⟨h1, h2, h3⟩ := hc
    have hpos : 0 < l0.length := by
      cases l0 with
      | nil => cases h1
      | cons _ _ => exact Nat.succ_pos _
    obtain ⟨rfl, rfl⟩ := Prod.mk.inj (Option.some.inj h)
    obtain ⟨ad, rfl, hcell⟩ := (Kd.reads_of_C (enc := Value.int .u8) (d := (0 : Int)) (h1 := fun _ => rfl) hr0).2.2 hpos
    obtain ⟨b, off, spot⟩ := ad
    have hspot : spot = none := by simpa [Addr.add] using World.cell?_spot (hcell 0 hpos)
    subst hspot
    have hp : ∀ j, j < (strOfNums l0).size → w.cell? ⟨b, off + j, none⟩ = some (.int .u8 ((strOfNums l0).get! j).toNat) := fun j hj => by
      rw [strOfNums_size] at hj
      rw [utf8_DecodeRune.get_byte l0 h2 j hj]
      have e : (⟨b, off, none⟩ : Addr).add j = ⟨b, off + j, none⟩ := by
        unfold Addr.add
        by_cases hj0 : j = 0 <;> simp [hj0]
      rw [← e]
      exact hcell j hj
    have hd := Tryd.utf8_DecodeRune (strOfNums l0) b off c0 w hW hp
    rw [strOfNums_size] at hd
    exact hd
  · rw [if_neg hc] at h
    cases h

/-! ### char_Next: function 13 -/
def char_Next.j0 : Nat → List Int → Int → Bool → Option (Int × Int)
  | 0, _, _, _ => none
  | k + 1, x0, x1, x14 => if x14 = true then (some (0, 0)) else (if 0 ≤ x1 then (if x1 ≤ (x0.length : Int) then (if 0 < ((x0.drop (x1 : Int).toNat).length : Int) then (if (rd (x0.drop (x1 : Int).toNat) 0) = 0 then (some (65533, 1)) else (if (rd (x0.drop (x1 : Int).toNat) 0) = 13 then (if ((x0.drop (x1 : Int).toNat).length : Int) > 1 then (if 1 < ((x0.drop (x1 : Int).toNat).length : Int) then (if (rd (x0.drop (x1 : Int).toNat) 1) = 10 then (some (10, 2)) else (some (10, 1))) else (none)) else (some (10, 1))) else ((utf8_DecodeRune.f (x0.drop (x1 : Int).toNat)).bind fun bt104 => (some (bt104.1, bt104.2))))) else (none)) else (none)) else (none))
def char_Next.f (k : Nat) (l0 : List Int) (a1 : Int) : Option (Int × Int) := if a1 < 0 then (char_Next.j0 k l0 a1 true) else (char_Next.j0 k l0 a1 (decide (a1 ≥ (l0.length : Int))))
theorem char_Next.mono_l : ∀ k, (∀ y0 y1 y2, LeO (char_Next.j0 k y0 y1 y2) (char_Next.j0 (k + 1) y0 y1 y2))
  | 0 => fun _ _ _ r h => by simp [char_Next.j0] at h
  | k + 1 => by
    have ih0 := char_Next.mono_l k
    · intro y0 y1 y2
      unfold char_Next.j0
      repeat' first
      | (with_reducible exact ih0 _ _ _)
      | (with_reducible exact LeO.refl _)
      | (with_reducible exact LeO.none _)
      | (with_reducible refine LeO.ite ?_ ?_)
      | (with_reducible refine LeO.bind ?_ (fun _ => ?_))
      | exact ih0 _ _ _
      | exact LeO.none _
      | refine LeO.ite ?_ ?_
      | refine LeO.bind ?_ (fun _ => ?_)
theorem char_Next.mono : ∀ a0 a1 k, LeO (char_Next.f k a0 a1) (char_Next.f (k + 1) a0 a1) := by
  intro a0 a1 k
  have ih0 := char_Next.mono_l k
  unfold char_Next.f
  repeat' first
      | (with_reducible exact ih0 _ _ _)
      | (with_reducible exact LeO.refl _)
      | (with_reducible exact LeO.none _)
      | (with_reducible refine LeO.ite ?_ ?_)
      | (with_reducible refine LeO.bind ?_ (fun _ => ?_))
      | exact ih0 _ _ _
      | exact LeO.none _
      | refine LeO.ite ?_ ?_
      | refine LeO.bind ?_ (fun _ => ?_)
set_option maxHeartbeats 8000000 in
set_option maxRecDepth 100000 in
theorem char_Next.calls (k : Nat) (A0 : Option Addr) (c0 : Nat) (l0 : List Int) (a1 : Int) (r1 : Int) (r2 : Int) (w : World) (hW : Wok w) (hr0 : Kd.C (Kd.int .u8) w A0 l0.length l0) (hc0 : l0.length ≤ c0) (h : char_Next.f k l0 a1 = some (r1, r2)) :
    Calls Tryd.prog 13 #[.slice A0 l0.length c0, .int .i64 a1] w fun e w' => e = .returned (.tuple #[.int .i32 r1, .int .i64 r2]) ∧ Below w.heap.size w w' := by
  have HR0 := Aside0.mk hr0
  have HC0 := Aside0.mk hc0
  clear hr0 hc0
  have HB := Aside0.mk (Below.refl w.heap.size w)
  have H : (if a1 < 0 then (char_Next.j0 k l0 a1 true) else (char_Next.j0 k l0 a1 (decide (a1 ≥ (l0.length : Int))))) = some (r1, r2) := h
  clear h
  have HC3 := Aside0.mk H
  clear H
  go_enter Tryd.func13, Tryd.ntmps13
  go_upto_region 1 with (fail)
  go_cut [14] (fun v14 wc => ∃ (kq : Nat) (x14_2 : Bool), v14 = .bool x14_2 ∧ Aside0 (char_Next.j0 kq l0 a1 x14_2 = some (r1, r2)) ∧ Aside0 (kq ≤ k) ∧ Aside0 (Below w.heap.size w wc))
  case first =>
    have H := HC3.out
    clear HC3
    by_cases c4 : a1 < 0
    · rw [if_pos c4] at H
      have c4b0 : decide (a1 < 0) = true := decide_eq_true c4
      clear c4
      (first | rw [c4b0] | (simp only [i64_w, i32_w]; rw [c4b0]) | skip)
      have H' := Aside0.mk H
      clear H
      go_wp2
      go_meet
      case rel => exact ⟨_, (true), (by first | rfl | (simp; done) | (simp [*]; done)), H', ⟨by first | omega | exact Nat.le_refl _⟩, ⟨by repeat (first | (with_reducible first | exact HB.out | apply below_alloc | apply pw_below_drewN | apply below_drew1) | exact HB.out)⟩⟩
    · rw [if_neg c4] at H
      have c4b0 : decide (a1 < 0) = false := decide_eq_false c4
      clear c4
      (first | rw [c4b0] | (simp only [i64_w, i32_w]; rw [c4b0]) | skip)
      have H' := Aside0.mk H
      clear H
      go_wp2
      go_meet
      case rel => exact ⟨_, (decide (a1 ≥ (l0.length : Int))), (by first | rfl | (simp; done) | (simp [*]; done)), H', ⟨by first | omega | exact Nat.le_refl _⟩, ⟨by repeat (first | (with_reducible first | exact HB.out | apply below_alloc | apply pw_below_drewN | apply below_drew1) | exact HB.out)⟩⟩
  case rest =>
    clear HC3
    try clear c1
    try clear p2
    try clear c4
    try clear c4b0
    obtain ⟨kq, x14_2, rfl, HA, HJ2, HB⟩ := hcut
    cases kq with
    | zero => exact absurd HA.out (by simp [char_Next.j0])
    | succ kj2 =>
      have H := HA.out
      clear HA
      simp only [char_Next.j0] at H
      by_cases c5 : x14_2 = true
      · subst c5
        have H1 : (some (0, 0)) = some (r1, r2) := by rw [if_pos rfl] at H; exact H
        clear H
        have H := H1
        clear H1
        simp only [Option.some.injEq, Prod.mk.injEq] at H
        obtain ⟨rfl, rfl⟩ := H
        go_wp2
        go_ret2
        exact ⟨by first | rfl | (simp [errW_none, errW_some] <;> rfl) | (simp [*, errW_none, errW_some] <;> rfl), by repeat (first | (with_reducible first | exact HB.out | apply below_alloc | apply pw_below_drewN | apply below_drew1) | exact HB.out)⟩
      · replace c5 := Bool.eq_false_iff.mpr c5
        subst c5
        have H1 : (if 0 ≤ a1 then (if a1 ≤ (l0.length : Int) then (if 0 < ((l0.drop (a1 : Int).toNat).length : Int) then (if (rd (l0.drop (a1 : Int).toNat) 0) = 0 then (some (65533, 1)) else (if (rd (l0.drop (a1 : Int).toNat) 0) = 13 then (if ((l0.drop (a1 : Int).toNat).length : Int) > 1 then (if 1 < ((l0.drop (a1 : Int).toNat).length : Int) then (if (rd (l0.drop (a1 : Int).toNat) 1) = 10 then (some (10, 2)) else (some (10, 1))) else (none)) else (some (10, 1))) else ((utf8_DecodeRune.f (l0.drop (a1 : Int).toNat)).bind fun bt104 => (some (bt104.1, bt104.2))))) else (none)) else (none)) else (none)) = some (r1, r2) := by rw [if_neg (show ¬ (false = true) by decide)] at H; exact H
        clear H
        have H := H1
        clear H1
        by_cases c6 : 0 ≤ a1
        · rw [if_pos c6] at H
          have c6b0 := eq_true c6
          have c6b1 : decide (0 ≤ a1) = true := decide_eq_true c6
          clear c6
          by_cases c7 : a1 ≤ (l0.length : Int)
          · rw [if_pos c7] at H
            have c7b0 := eq_true c7
            have c7b1 : decide (a1 ≤ (l0.length : Int)) = true := decide_eq_true c7
            clear c7
            by_cases c8 : 0 < ((l0.drop (a1 : Int).toNat).length : Int)
            · rw [if_pos c8] at H
              have c8b0 : decide (0 < ((l0.drop (a1 : Int).toNat).length : Int)) = true := decide_eq_true c8
              have c8b1 : decide (0 < (l0.drop (a1 : Int).toNat).length) = true := decide_eq_true (by omega)
              have c8d0 := eq_true (show (0 : Int) < ((l0.length - (a1 : Int).toNat : Nat) : Int) by have h_ := c8; rw [List.length_drop] at h_; exact h_)
              have c8d1 := eq_true (show 0 < l0.length - (a1 : Int).toNat by have h_ := c8; rw [List.length_drop] at h_; omega)
              clear c8
              by_cases c9 : (rd (l0.drop (a1 : Int).toNat) 0) = 0
              · rw [if_pos c9] at H
                have c9b0 : ((rd (l0.drop (a1 : Int).toNat) 0) == 0) = true := beq_iff_eq.mpr c9
                have c9b1 : ((rd (l0.drop (a1 : Int).toNat) 0) != 0) = false := bne_eq_false_iff_eq.mpr c9
                clear c9
                simp only [Option.some.injEq, Prod.mk.injEq] at H
                obtain ⟨rfl, rfl⟩ := H
                obtain ⟨i010, hi010, _, hsz10, _⟩ := info_parts info5
                obtain ⟨A10, hcut10, hA10, hC10⟩ := print_drop_of (P := Tryd.prog) (Value.int .u8) 0 22 5 .i64 Tryd.underlying22 hi010 hsz10 A0 c0 l0 a1 (of_decide_eq_true (by first | (with_reducible assumption) | assumption)) (of_decide_eq_true (by first | (with_reducible assumption) | assumption)) HC0.out
                have HR101 := Aside0.mk (Kd.C_of_reads (h1 := fun _ => rfl) (hA10 _ (Kd.reads_of_C HR0.out)))
                have HC101 := Aside0.mk hC10
                clear hA10 hC10 hi010 hsz10
                have p102 : 0 ≤ (0 : Int) := (by omega)
                have q102 : 0 < ((l0.drop (a1 : Int).toNat).length : Int) := of_decide_eq_true (by first | (with_reducible assumption) | assumption)
                obtain ⟨ad102, e102, hx102_0⟩ := Kd.at_int HR101.out 0 p102 q102
                cases e102
                have qi102 : (0 < (l0.drop (a1 : Int).toNat).length) = True := eq_true (by omega)
                (try rw [show ((0 : Int)).toNat = 0 from rfl] at hx102_0)
                (try rw [Addr.add_zero'] at hx102_0)
                replace hx102_0 := (HB.out.cell (World.block_lt_of_cell? w _ hx102_0)).trans hx102_0
                replace p102 := eq_true p102
                replace q102 := eq_true q102
                go_wp2
                go_ret2
                exact ⟨by first | rfl | (simp [errW_none, errW_some] <;> rfl) | (simp [*, errW_none, errW_some] <;> rfl), by repeat (first | (with_reducible first | exact HB.out | apply below_alloc | apply pw_below_drewN | apply below_drew1) | exact HB.out)⟩
              · rw [if_neg c9] at H
                have c9b0 : ((rd (l0.drop (a1 : Int).toNat) 0) == 0) = false := beq_eq_false_iff_ne.mpr c9
                have c9b1 : ((rd (l0.drop (a1 : Int).toNat) 0) != 0) = true := bne_iff_ne.mpr c9
                by_cases c11 : (rd (l0.drop (a1 : Int).toNat) 0) = 13
                · rw [if_pos c11] at H
                  have c11b0 : ((rd (l0.drop (a1 : Int).toNat) 0) == 13) = true := beq_iff_eq.mpr c11
                  have c11b1 : ((rd (l0.drop (a1 : Int).toNat) 0) != 13) = false := bne_eq_false_iff_eq.mpr c11
                  clear c11
                  by_cases c12 : ((l0.drop (a1 : Int).toNat).length : Int) > 1
                  · rw [if_pos c12] at H
                    have c12b0 : decide (1 < ((l0.drop (a1 : Int).toNat).length : Int)) = true := decide_eq_true c12
                    have c12b1 : decide (1 < (l0.drop (a1 : Int).toNat).length) = true := decide_eq_true (by omega)
                    have c12d0 := eq_true (show (1 : Int) < ((l0.length - (a1 : Int).toNat : Nat) : Int) by have h_ := c12; rw [List.length_drop] at h_; exact h_)
                    have c12d1 := eq_true (show 1 < l0.length - (a1 : Int).toNat by have h_ := c12; rw [List.length_drop] at h_; omega)
                    clear c12
                    by_cases c13 : 1 < ((l0.drop (a1 : Int).toNat).length : Int)
                    · rw [if_pos c13] at H
                      have c13b0 : decide (1 < ((l0.drop (a1 : Int).toNat).length : Int)) = true := decide_eq_true c13
                      have c13b1 : decide (1 < (l0.drop (a1 : Int).toNat).length) = true := decide_eq_true (by omega)
                      have c13d0 := eq_true (show (1 : Int) < ((l0.length - (a1 : Int).toNat : Nat) : Int) by have h_ := c13; rw [List.length_drop] at h_; exact h_)
                      have c13d1 := eq_true (show 1 < l0.length - (a1 : Int).toNat by have h_ := c13; rw [List.length_drop] at h_; omega)
                      clear c13
                      by_cases c14 : (rd (l0.drop (a1 : Int).toNat) 1) = 10
                      · rw [if_pos c14] at H
                        have c14b0 : ((rd (l0.drop (a1 : Int).toNat) 1) == 10) = true := beq_iff_eq.mpr c14
                        have c14b1 : ((rd (l0.drop (a1 : Int).toNat) 1) != 10) = false := bne_eq_false_iff_eq.mpr c14
                        clear c14
                        simp only [Option.some.injEq, Prod.mk.injEq] at H
                        obtain ⟨rfl, rfl⟩ := H
                        obtain ⟨i015, hi015, _, hsz15, _⟩ := info_parts info5
                        obtain ⟨A15, hcut15, hA15, hC15⟩ := print_drop_of (P := Tryd.prog) (Value.int .u8) 0 22 5 .i64 Tryd.underlying22 hi015 hsz15 A0 c0 l0 a1 (of_decide_eq_true (by first | (with_reducible assumption) | assumption)) (of_decide_eq_true (by first | (with_reducible assumption) | assumption)) HC0.out
                        have HR101 := Aside0.mk (Kd.C_of_reads (h1 := fun _ => rfl) (hA15 _ (Kd.reads_of_C HR0.out)))
                        have HC101 := Aside0.mk hC15
                        clear hA15 hC15 hi015 hsz15
                        have p102 : 0 ≤ (0 : Int) := (by omega)
                        have q102 : 0 < ((l0.drop (a1 : Int).toNat).length : Int) := of_decide_eq_true (by first | (with_reducible assumption) | assumption)
                        obtain ⟨ad102, e102, hx102_0⟩ := Kd.at_int HR101.out 0 p102 q102
                        cases e102
                        have qi102 : (0 < (l0.drop (a1 : Int).toNat).length) = True := eq_true (by omega)
                        (try rw [show ((0 : Int)).toNat = 0 from rfl] at hx102_0)
                        (try rw [Addr.add_zero'] at hx102_0)
                        replace hx102_0 := (HB.out.cell (World.block_lt_of_cell? w _ hx102_0)).trans hx102_0
                        replace p102 := eq_true p102
                        replace q102 := eq_true q102
                        have p103 : 0 ≤ (1 : Int) := (by omega)
                        have q103 : 1 < ((l0.drop (a1 : Int).toNat).length : Int) := of_decide_eq_true (by first | (with_reducible assumption) | assumption)
                        obtain ⟨ad103, e103, hx103_0⟩ := Kd.at_int HR101.out 1 p103 q103
                        obtain rfl : ad102 = ad103 := (by injection e103)
                        (try simp only [show (1 : Int).toNat = 1 from rfl, Nat.reduceMul, Nat.reduceEqDiff, Go.Addr.add, ↓reduceIte] at hx103_0)
                        have qi103 : (1 < (l0.drop (a1 : Int).toNat).length) = True := eq_true (by omega)
                        (try rw [show ((1 : Int)).toNat = 1 from rfl] at hx103_0)
                        replace hx103_0 := (HB.out.cell (World.block_lt_of_cell? w _ hx103_0)).trans hx103_0
                        replace p103 := eq_true p103
                        replace q103 := eq_true q103
                        go_wp2
                        go_ret2
                        exact ⟨by first | rfl | (simp [errW_none, errW_some] <;> rfl) | (simp [*, errW_none, errW_some] <;> rfl), by repeat (first | (with_reducible first | exact HB.out | apply below_alloc | apply pw_below_drewN | apply below_drew1) | exact HB.out)⟩
                      · rw [if_neg c14] at H
                        have c14b0 : ((rd (l0.drop (a1 : Int).toNat) 1) == 10) = false := beq_eq_false_iff_ne.mpr c14
                        have c14b1 : ((rd (l0.drop (a1 : Int).toNat) 1) != 10) = true := bne_iff_ne.mpr c14
                        simp only [Option.some.injEq, Prod.mk.injEq] at H
                        obtain ⟨rfl, rfl⟩ := H
                        obtain ⟨i016, hi016, _, hsz16, _⟩ := info_parts info5
                        obtain ⟨A16, hcut16, hA16, hC16⟩ := print_drop_of (P := Tryd.prog) (Value.int .u8) 0 22 5 .i64 Tryd.underlying22 hi016 hsz16 A0 c0 l0 a1 (of_decide_eq_true (by first | (with_reducible assumption) | assumption)) (of_decide_eq_true (by first | (with_reducible assumption) | assumption)) HC0.out
                        have HR101 := Aside0.mk (Kd.C_of_reads (h1 := fun _ => rfl) (hA16 _ (Kd.reads_of_C HR0.out)))
                        have HC101 := Aside0.mk hC16
                        clear hA16 hC16 hi016 hsz16
                        have p102 : 0 ≤ (0 : Int) := (by omega)
                        have q102 : 0 < ((l0.drop (a1 : Int).toNat).length : Int) := of_decide_eq_true (by first | (with_reducible assumption) | assumption)
                        obtain ⟨ad102, e102, hx102_0⟩ := Kd.at_int HR101.out 0 p102 q102
                        cases e102
                        have qi102 : (0 < (l0.drop (a1 : Int).toNat).length) = True := eq_true (by omega)
                        (try rw [show ((0 : Int)).toNat = 0 from rfl] at hx102_0)
                        (try rw [Addr.add_zero'] at hx102_0)
                        replace hx102_0 := (HB.out.cell (World.block_lt_of_cell? w _ hx102_0)).trans hx102_0
                        replace p102 := eq_true p102
                        replace q102 := eq_true q102
                        have p103 : 0 ≤ (1 : Int) := (by omega)
                        have q103 : 1 < ((l0.drop (a1 : Int).toNat).length : Int) := of_decide_eq_true (by first | (with_reducible assumption) | assumption)
                        obtain ⟨ad103, e103, hx103_0⟩ := Kd.at_int HR101.out 1 p103 q103
                        obtain rfl : ad102 = ad103 := (by injection e103)
                        (try simp only [show (1 : Int).toNat = 1 from rfl, Nat.reduceMul, Nat.reduceEqDiff, Go.Addr.add, ↓reduceIte] at hx103_0)
                        have qi103 : (1 < (l0.drop (a1 : Int).toNat).length) = True := eq_true (by omega)
                        (try rw [show ((1 : Int)).toNat = 1 from rfl] at hx103_0)
                        replace hx103_0 := (HB.out.cell (World.block_lt_of_cell? w _ hx103_0)).trans hx103_0
                        replace p103 := eq_true p103
                        replace q103 := eq_true q103
                        go_wp2
                        go_ret2
                        exact ⟨by first | rfl | (simp [errW_none, errW_some] <;> rfl) | (simp [*, errW_none, errW_some] <;> rfl), by repeat (first | (with_reducible first | exact HB.out | apply below_alloc | apply pw_below_drewN | apply below_drew1) | exact HB.out)⟩
                    · rw [if_neg c13] at H
                      exact absurd H (by simp)
                  · rw [if_neg c12] at H
                    have c12b0 : decide (1 < ((l0.drop (a1 : Int).toNat).length : Int)) = false := decide_eq_false c12
                    have c12b1 : decide (1 < (l0.drop (a1 : Int).toNat).length) = false := decide_eq_false (by omega)
                    have c12d0 := eq_false (show ¬ (1 : Int) < ((l0.length - (a1 : Int).toNat : Nat) : Int) by have h_ := c12; rw [List.length_drop] at h_; exact h_)
                    have c12d1 := eq_true (show ((l0.length - (a1 : Int).toNat : Nat) : Int) ≤ 1 by have h_ := c12; rw [List.length_drop] at h_; omega)
                    clear c12
                    simp only [Option.some.injEq, Prod.mk.injEq] at H
                    obtain ⟨rfl, rfl⟩ := H
                    obtain ⟨i017, hi017, _, hsz17, _⟩ := info_parts info5
                    obtain ⟨A17, hcut17, hA17, hC17⟩ := print_drop_of (P := Tryd.prog) (Value.int .u8) 0 22 5 .i64 Tryd.underlying22 hi017 hsz17 A0 c0 l0 a1 (of_decide_eq_true (by first | (with_reducible assumption) | assumption)) (of_decide_eq_true (by first | (with_reducible assumption) | assumption)) HC0.out
                    have HR101 := Aside0.mk (Kd.C_of_reads (h1 := fun _ => rfl) (hA17 _ (Kd.reads_of_C HR0.out)))
                    have HC101 := Aside0.mk hC17
                    clear hA17 hC17 hi017 hsz17
                    have p102 : 0 ≤ (0 : Int) := (by omega)
                    have q102 : 0 < ((l0.drop (a1 : Int).toNat).length : Int) := of_decide_eq_true (by first | (with_reducible assumption) | assumption)
                    obtain ⟨ad102, e102, hx102_0⟩ := Kd.at_int HR101.out 0 p102 q102
                    cases e102
                    have qi102 : (0 < (l0.drop (a1 : Int).toNat).length) = True := eq_true (by omega)
                    (try rw [show ((0 : Int)).toNat = 0 from rfl] at hx102_0)
                    (try rw [Addr.add_zero'] at hx102_0)
                    replace hx102_0 := (HB.out.cell (World.block_lt_of_cell? w _ hx102_0)).trans hx102_0
                    replace p102 := eq_true p102
                    replace q102 := eq_true q102
                    go_wp2
                    go_ret2
                    exact ⟨by first | rfl | (simp [errW_none, errW_some] <;> rfl) | (simp [*, errW_none, errW_some] <;> rfl), by repeat (first | (with_reducible first | exact HB.out | apply below_alloc | apply pw_below_drewN | apply below_drew1) | exact HB.out)⟩
                · rw [if_neg c11] at H
                  have c11b0 : ((rd (l0.drop (a1 : Int).toNat) 0) == 13) = false := beq_eq_false_iff_ne.mpr c11
                  have c11b1 : ((rd (l0.drop (a1 : Int).toNat) 0) != 13) = true := bne_iff_ne.mpr c11
                  replace H := Option.bind_eq_some_iff.mp H
                  obtain ⟨⟨t104, t105⟩, A180, H⟩ := H
                  replace H : (some (t104, t105)) = some (r1, r2) := H
                  have A18 := Aside0.mk A180
                  clear A180
                  simp only [Option.some.injEq, Prod.mk.injEq] at H
                  obtain ⟨rfl, rfl⟩ := H
                  obtain ⟨i019, hi019, _, hsz19, _⟩ := info_parts info5
                  obtain ⟨A19, hcut19, hA19, hC19⟩ := print_drop_of (P := Tryd.prog) (Value.int .u8) 0 22 5 .i64 Tryd.underlying22 hi019 hsz19 A0 c0 l0 a1 (of_decide_eq_true (by first | (with_reducible assumption) | assumption)) (of_decide_eq_true (by first | (with_reducible assumption) | assumption)) HC0.out
                  have HR101 := Aside0.mk (Kd.C_of_reads (h1 := fun _ => rfl) (hA19 _ (Kd.reads_of_C HR0.out)))
                  have HC101 := Aside0.mk hC19
                  clear hA19 hC19 hi019 hsz19
                  have p102 : 0 ≤ (0 : Int) := (by omega)
                  have q102 : 0 < ((l0.drop (a1 : Int).toNat).length : Int) := of_decide_eq_true (by first | (with_reducible assumption) | assumption)
                  obtain ⟨ad102, e102, hx102_0⟩ := Kd.at_int HR101.out 0 p102 q102
                  cases e102
                  have qi102 : (0 < (l0.drop (a1 : Int).toNat).length) = True := eq_true (by omega)
                  (try rw [show ((0 : Int)).toNat = 0 from rfl] at hx102_0)
                  (try rw [Addr.add_zero'] at hx102_0)
                  replace hx102_0 := (HB.out.cell (World.block_lt_of_cell? w _ hx102_0)).trans hx102_0
                  replace p102 := eq_true p102
                  replace q102 := eq_true q102
                  go_wp2_with (first | ((with_reducible refine gate_callee (f := 30) rfl ?_); refine goesL_ (some 22) rfl rfl Tryd.func30 (by kernel_rfl) rfl #[.slice (some ad102) (l0.drop (a1 : Int).toNat).length (c0 - a1.toNat)] rfl (by (try simp only [List.map_toArray, List.map_cons, List.map_nil]); first | done | (rw [show (l0.drop (a1 : Int).toNat).length = (l0.length - a1.toNat) from List.length_drop] <;> rfl) | rfl | (simp only [List.length_drop, List.length_take]; rfl)) ?_; (with_reducible refine (utf8_DecodeRune.calls _ _ (l0.drop (a1 : Int).toNat) t104 t105 _ (Wok_below hW (by repeat (first | (with_reducible first | exact HB.out | apply below_alloc | apply pw_below_drewN | apply below_drew1) | exact HB.out))) ?side1 ?side2 A18.out).mono ?_); (case side1 => repeat (first | exact (Kd.C_below HR101.out HB.out) | (with_reducible refine Kd.C_alloc ?_ _) | (with_reducible refine Kd.C_drewN ?_ _) | (with_reducible refine Kd.C_drew ?_))); (case side2 => exact HC101.out); rintro e w20 ⟨rfl, hb⟩; refine ⟨_, rfl, ?_⟩; have n0_ := Aside0.mk (below_step (by repeat (first | (with_reducible first | exact HB.out | apply below_alloc | apply pw_below_drewN | apply below_drew1) | exact HB.out)) hb); clear HB; have HB := n0_; clear n0_; (try clear hb); (try clear hb2); (try clear hk); (try clear hi)))
                  go_ret2
                  exact ⟨by first | rfl | (simp [errW_none, errW_some] <;> rfl) | (simp [*, errW_none, errW_some] <;> rfl), by repeat (first | (with_reducible first | exact HB.out | apply below_alloc | apply pw_below_drewN | apply below_drew1) | exact HB.out)⟩
            · rw [if_neg c8] at H
              exact absurd H (by simp)
          · rw [if_neg c7] at H
            exact absurd H (by simp)
        · rw [if_neg c6] at H
          exact absurd H (by simp)

/-! ### char_All: function 15 -/
def char_All.runeB (r : Int) : List UInt8 := (Lib.encodeRuneZ r).map fun z => UInt8.ofNat z.toNat
theorem char_All.rune_cells (r : Int) : Lib.runeCells r = Lib.byteCells (char_All.runeB r) := by
  unfold Lib.runeCells Lib.byteCells char_All.runeB
  rw [List.map_map]
  refine List.map_congr_left fun z hz => ?_
  have h := Lib.encodeRuneZ_byte r z hz
  show Value.int .u8 z = Value.int .u8 ((UInt8.ofNat z.toNat).toNat : Int)
  rw [UInt8.toNat_ofNat']
  congr 1
  omega
theorem char_All.cells_app (a b : List UInt8) : Lib.byteCells (a ++ b) = Lib.byteCells a ++ Lib.byteCells b := by
  unfold Lib.byteCells
  rw [List.map_append]
def char_All.l0 : Nat → List Int → Int → Int → List UInt8 → Option ByteArray
  | 0, _, _, _, _ => none
  | k + 1, l, p, q, acc => if p < q then ((char_Next.f k l p).bind fun cn => if cn.2 = 0 then some ⟨acc.toArray⟩ else (if -2147483648 ≤ cn.1 ∧ cn.1 ≤ 2147483647 ∧ acc.length + 4 ≤ 140737488355328 then char_All.l0 k l (wrap64 (p + cn.2)) q (acc ++ char_All.runeB cn.1) else none)) else some ⟨acc.toArray⟩
def char_All.f (k : Nat) (l0 : List Int) (a1 a2 : Int) : Option ByteArray := char_All.l0 k l0 a1 a2 []
theorem char_All.mono_l : ∀ k y0 y1 y2 y3, LeO (char_All.l0 k y0 y1 y2 y3) (char_All.l0 (k + 1) y0 y1 y2 y3)
  | 0 => fun _ _ _ _ r h => by simp [char_All.l0] at h
  | k + 1 => by
    have ih0 := char_All.mono_l k
    intro y0 y1 y2 y3
    unfold char_All.l0
    repeat' first
      | (with_reducible exact ih0 _ _ _ _)
      | (with_reducible exact char_Next.mono _ _ _)
      | (with_reducible exact LeO.refl _)
      | (with_reducible exact LeO.none _)
      | (with_reducible refine LeO.ite ?_ ?_)
      | (with_reducible refine LeO.bind ?_ (fun _ => ?_))
theorem char_All.mono : ∀ a0 a1 a2 k, LeO (char_All.f k a0 a1 a2) (char_All.f (k + 1) a0 a1 a2) := fun a0 a1 a2 k => char_All.mono_l k a0 a1 a2 []
theorem char_All.builder_below {T e : TypeId} {B b : Nat} {bs : List Value} {w w1 : World} (h : Lib.IsBuilderF T e B b bs w) (hb : Below w.heap.size w w1) : Lib.IsBuilderF T e B b bs w1 := by
  have key : ∀ p, Lib.BuilderAtF T e B b p bs w → Lib.BuilderAtF T e B b p bs w1 := fun p hp => by
    have hlt := hp.lt
    obtain ⟨hB, v, hc, hown, hne⟩ := hp
    exact ⟨hB, v, (hb.block b hlt).trans hc, hown.kept (row := none) ⟨hb.os, hb.tape, hb.output, hb.size, fun k hk _ => hb.block k hk⟩ (by cases hv : v.ownBlock <;> simp), hne⟩
  exact h.imp (key _) (key _)
theorem char_All.builder_new (w : World) : Lib.IsBuilderF 45 5 w.heap.size w.heap.size [] (w.alloc (.cells #[.pointer none, .slice none 0 0] 45)) := Lib.IsBuilderF.of (Lib.fresh_isBuilder _ _ w)
theorem char_All.below_all {W w1 w2 : World} (h : Below W.heap.size W w1) (k : Below w1.heap.size w1 w2) : Below W.heap.size W w2 := h.trans (k.mono h.size)
set_option maxRecDepth 100000 in
set_option maxHeartbeats 4000000 in
theorem char_All.calls (k : Nat) (A0 : Option Addr) (c0 : Nat) (l0 : List Int) (a1 a2 : Int) (r : ByteArray) (w : World) (hW : Wok w) (hr0 : Kd.C (Kd.int .u8) w A0 l0.length l0) (hc0 : l0.length ≤ c0) (h : char_All.f k l0 a1 a2 = some r) :
    Calls Tryd.prog 15 #[.slice A0 l0.length c0, .int .i64 a1, .int .i64 a2] w fun e w' => e = .returned (.string r) ∧ Below w.heap.size w w' := by
  have HW := Lib.hid hW
  have HR := Lib.hid hr0
  have HC := Lib.hid hc0
  have HN := Lib.hid (char_All.builder_new w)
  have H0 := Lib.hid h
  clear hW hr0 hc0 h
  go_enter Tryd.func15, Tryd.ntmps15
  go_wp2
  go_loopg [8] k (fun gg s8 wr => ∃ (p : Int) (acc : List UInt8) (j : Nat), j ≤ gg ∧ s8 = .int .i64 p ∧ Hid (char_All.l0 j l0 p a2 acc = some r) ∧ Hid (Lib.IsBuilderF 45 5 w.heap.size w.heap.size (Lib.byteCells acc) wr) ∧ Hid (Below w.heap.size w wr))
  case atStart => exact ⟨a1, [], k, Nat.le_refl _, rfl, H0.out, HN.out, (Below.refl _ _).alloc (Nat.le_refl _) _⟩
  case round =>
    clear H0 HN
    obtain ⟨p, acc, j, hj, rfl, HL, HI, HB⟩ := hrel
    cases j with
    | zero => exact absurd HL.out (by simp [char_All.l0])
    | succ j =>
      have hl := HL.out
      clear HL
      rw [char_All.l0] at hl
      by_cases c1 : p < a2
      · rw [if_pos c1] at hl
        obtain ⟨cn, hN, hl⟩ := Option.bind_eq_some_iff.1 hl
        obtain ⟨c, n⟩ := cn
        dsimp only at hl
        have HNx := Lib.hid hN
        clear hN
        by_cases c2 : n = 0
        · subst c2
          rw [if_pos rfl] at hl
          obtain rfl := Option.some.inj hl
          clear hl
          go_wp2_with (first | (go_at_call 13; refine (char_Next.calls j A0 c0 l0 p c 0 _ (Wok_below HW.out HB.out) (Kd.C_below HR.out HB.out) HC.out HNx.out).mono ?_; rintro e w1 ⟨rfl, hb1⟩) | (go_at_call 33; refine (Tryd.Builder_String_any_k w.heap.size w.heap.size acc _ (char_All.builder_below HI.out hb1) (Nat.le_trans HB.out.size hb1.size)).mono ?_; rintro e w2 ⟨rfl, hi2, hb2, ho2⟩))
          go_ret
          exact ⟨rfl, (char_All.below_all HB.out hb1).trans hb2⟩
        · rw [if_neg c2] at hl
          by_cases c3 : -2147483648 ≤ c ∧ c ≤ 2147483647 ∧ acc.length + 4 ≤ 140737488355328
          · rw [if_pos c3] at hl
            obtain ⟨c3, c4, c5⟩ := c3
            have hcl : (Lib.byteCells acc).length + 4 ≤ 140737488355328 := by rw [Lib.byteCells_length]; exact c5
            have HCL := Lib.hid hcl
            have H3 := Lib.hid c3
            have H4 := Lib.hid c4
            have HLx := Lib.hid hl
            have c2b : (n == 0) = false := by simpa using c2
            clear c3 c4 c5 hcl hl
            go_wp2_with (first | (go_at_call 13; refine (char_Next.calls j A0 c0 l0 p c n _ (Wok_below HW.out HB.out) (Kd.C_below HR.out HB.out) HC.out HNx.out).mono ?_; rintro e w1 ⟨rfl, hb1⟩) | (go_at_call 32; refine (Tryd.Builder_WriteRune_k w.heap.size w.heap.size (Lib.byteCells acc) c H3.out H4.out _ (char_All.builder_below HI.out hb1) HCL.out (Nat.le_trans HB.out.size hb1.size)).mono ?_; rintro e w2 ⟨rfl, hi2, hb2, ho2⟩))
            go_roundg j
            case measure => omega
            case rel => exact ⟨_, acc ++ char_All.runeB c, j, Nat.le_refl _, rfl, HLx.out, .inr (by rw [char_All.cells_app, ← char_All.rune_cells]; exact hi2), (char_All.below_all HB.out hb1).trans hb2⟩
          · rw [if_neg c3] at hl
            cases hl
      · rw [if_neg c1] at hl
        obtain rfl := Option.some.inj hl
        clear hl
        go_wp2_with (go_at_call 33; refine (Tryd.Builder_String_any_k w.heap.size w.heap.size acc _ HI.out HB.out.size).mono ?_; rintro e w2 ⟨rfl, hi2, hb2, ho2⟩)
        go_ret
        exact ⟨rfl, HB.out.trans hb2⟩

/-! ### decanterlaw02_speaks: function 12 -/
def decanterlaw02_speaks.f (k : Nat)  : Option (Bool) := (some (([97, 13, 10, 0] : List Int) : List Int)).bind fun y106 => ((char_Next.f k y106 1).bind fun bt109 => (if bt109.1 = 10 then (if bt109.2 = 2 then ((char_All.f k y106 0 4).bind fun t111 => (some (t111.toList == ([97, 10, 239, 191, 189] : List UInt8)))) else (some false)) else (some false)))
theorem decanterlaw02_speaks.mono : ∀ k, LeO (decanterlaw02_speaks.f k ) (decanterlaw02_speaks.f (k + 1) ) := by
  intro  k
  unfold decanterlaw02_speaks.f
  repeat' first
      | (with_reducible exact char_All.mono _ _ _ _)
      | (with_reducible exact char_Next.mono _ _ _)
      | (with_reducible exact LeO.refl _)
      | (with_reducible exact LeO.none _)
      | (with_reducible refine LeO.ite ?_ ?_)
      | (with_reducible refine LeO.bind ?_ (fun _ => ?_))
      | exact char_All.mono _ _ _ _
      | exact char_Next.mono _ _ _
      | exact LeO.none _
      | refine LeO.ite ?_ ?_
      | refine LeO.bind ?_ (fun _ => ?_)
set_option maxHeartbeats 8000000 in
set_option maxRecDepth 100000 in
theorem decanterlaw02_speaks.calls (k : Nat)  (r : Bool) (w : World) (hW : Wok w) (h : decanterlaw02_speaks.f k  = some r) :
    Calls Tryd.prog 12 #[] w fun e w' => e = .returned (.bool r) ∧ Below w.heap.size w w' := by
  have HB := Aside0.mk (Below.refl w.heap.size w)
  have H : ((some (([97, 13, 10, 0] : List Int) : List Int)).bind fun y106 => ((char_Next.f k y106 1).bind fun bt109 => (if bt109.1 = 10 then (if bt109.2 = 2 then ((char_All.f k y106 0 4).bind fun t111 => (some (t111.toList == ([97, 10, 239, 191, 189] : List UInt8)))) else (some false)) else (some false)))) = some r := h
  clear h
  obtain ⟨y106, hy106⟩ : ∃ y_ : List Int, y_ = (([97, 13, 10, 0] : List Int)) := ⟨_, rfl⟩
  replace H : ((char_Next.f k y106 1).bind fun bt109 => (if bt109.1 = 10 then (if bt109.2 = 2 then ((char_All.f k y106 0 4).bind fun t111 => (some (t111.toList == ([97, 10, 239, 191, 189] : List UInt8)))) else (some false)) else (some false))) = some r := by first | (rw [hy106]; with_reducible exact H) | (have H2_ := (Option.bind_some _ _).symm.trans H; rw [hy106]; with_reducible exact H2_) | (have H2_ := (Option.bind_some _ _).symm.trans H; with_reducible exact H2_) | with_reducible exact H | (rw [hy106]; exact H) | exact H
  have Ny106 := Aside0.mk hy106
  clear hy106
  replace H := Option.bind_eq_some_iff.mp H
  obtain ⟨⟨t109, t110⟩, A10, H⟩ := H
  replace H : (if t109 = 10 then (if t110 = 2 then ((char_All.f k y106 0 4).bind fun t111 => (some (t111.toList == ([97, 10, 239, 191, 189] : List UInt8)))) else (some false)) else (some false)) = some r := H
  have A1 := Aside0.mk A10
  clear A10
  by_cases c2 : t109 = 10
  · rw [if_pos c2] at H
    have c2b0 : (t109 == 10) = true := beq_iff_eq.mpr c2
    have c2b1 : (t109 != 10) = false := bne_eq_false_iff_eq.mpr c2
    clear c2
    by_cases c3 : t110 = 2
    · rw [if_pos c3] at H
      have c3b0 : (t110 == 2) = true := beq_iff_eq.mpr c3
      have c3b1 : (t110 != 2) = false := bne_eq_false_iff_eq.mpr c3
      clear c3
      replace H := Option.bind_eq_some_iff.mp H
      obtain ⟨t111, A40, H⟩ := H
      replace H : (some (t111.toList == ([97, 10, 239, 191, 189] : List UInt8))) = some r := H
      have A4 := Aside0.mk A40
      clear A40
      obtain rfl := Option.some.inj H
      go_enter Tryd.func12, Tryd.ntmps12
      go_wp2_with (first | ((with_reducible refine gate_dst (N := 4) rfl ?_); refine Kd.R_lit (Kd.int .u8) _ 5 ?hg (N := 4) ?hd (xs := ([97, 13, 10, 0] : List Int)) (inner := [.int .u8 97, .int .u8 13, .int .u8 10, .int .u8 0]) (ok := fun _ => True) (okp := fun _ => True) ?hr ?hp (fun _ hk => hk) trivial (Below.refl _ _) (Nat.le_refl _) (by simp) ?_; (case hd => rfl); (case hg => rfl); (case hr => first | (go_simp; done) | (go_simp; rfl)); (case hp => exact (Reps.one (show Kd.M (Kd.int .u8) _ _ _ 97 [.int .u8 97] from rfl) (Reps.one (show Kd.M (Kd.int .u8) _ _ _ 13 [.int .u8 13] from rfl) (Reps.one (show Kd.M (Kd.int .u8) _ _ _ 10 [.int .u8 10] from rfl) (Reps.one (show Kd.M (Kd.int .u8) _ _ _ 0 [.int .u8 0] from rfl) (Reps.none _ _)))))); intro v107 w5 ho6 hb hg_ hnew_; clear hg_ hnew_; (first | rw [← Ny106.out] at ho6 | (simp only [Int.reduceToNat] at ho6; rw [← Ny106.out] at ho6)); have n0_ := Aside0.mk (Kd.R_lower ho6 (below_size (by repeat (first | (with_reducible first | exact HB.out | apply below_alloc | apply pw_below_drewN | apply below_drew1) | exact HB.out)))); have n1_ := Aside0.mk (below_step (by repeat (first | (with_reducible first | exact HB.out | apply below_alloc | apply pw_below_drewN | apply below_drew1) | exact HB.out)) hb); clear HB; have HO108 := n0_; have HB := n1_; clear n0_ n1_; clear hb ho6; obtain ⟨Ao7, co7, eo7⟩ := Kd.R_slice HO108.out; subst eo7) | ((with_reducible refine gate_callee (f := 13) rfl ?_); refine goesL_ (some 7) rfl rfl Tryd.func13 (by kernel_rfl) rfl #[.slice Ao7 y106.length co7, .int .i64 1] rfl (by (try simp only [List.map_toArray, List.map_cons, List.map_nil]); first | done | rfl | (simp only [List.length_drop, List.length_take]; rfl)) ?_; (with_reducible refine (char_Next.calls k _ _ y106 1 t109 t110 _ (Wok_below hW (by repeat (first | (with_reducible first | exact HB.out | apply below_alloc | apply pw_below_drewN | apply below_drew1) | exact HB.out))) ?side1 ?side2 A1.out).mono ?_); (case side1 => repeat (first | exact (Kd.R_reads' HO108.out).2.2 | (with_reducible refine Kd.C_alloc ?_ _) | (with_reducible refine Kd.C_drewN ?_ _) | (with_reducible refine Kd.C_drew ?_))); (case side2 => exact (Kd.R_reads' HO108.out).2.1); rintro e w8 ⟨rfl, hb⟩; refine ⟨_, rfl, ?_⟩; have n0_ := Aside0.mk (Kd.R_below (by (with_reducible repeat (first | apply Kd.R_alloc | apply Kd.R_drewN | apply Kd.R_drew)); exact HO108.out) hb); have n1_ := Aside0.mk (below_step (by repeat (first | (with_reducible first | exact HB.out | apply below_alloc | apply pw_below_drewN | apply below_drew1) | exact HB.out)) hb); clear HO108; clear HB; have HO108 := n0_; have HB := n1_; clear n0_ n1_; (try clear hb); (try clear hb2); (try clear hk); (try clear hi)) | (go_at_call 15; (with_reducible refine (char_All.calls k _ _ y106 0 4 t111 _ (Wok_below hW (by repeat (first | (with_reducible first | exact HB.out | apply below_alloc | apply pw_below_drewN | apply below_drew1) | exact HB.out))) ?side1 ?side2 A4.out).mono ?_); (case side1 => repeat (first | exact (Kd.R_reads' HO108.out).2.2 | (with_reducible refine Kd.C_alloc ?_ _) | (with_reducible refine Kd.C_drewN ?_ _) | (with_reducible refine Kd.C_drew ?_))); (case side2 => exact (Kd.R_reads' HO108.out).2.1); rintro e w9 ⟨rfl, hb⟩; have n0_ := Aside0.mk (Kd.R_below (by (with_reducible repeat (first | apply Kd.R_alloc | apply Kd.R_drewN | apply Kd.R_drew)); exact HO108.out) hb); have n1_ := Aside0.mk (below_step (by repeat (first | (with_reducible first | exact HB.out | apply below_alloc | apply pw_below_drewN | apply below_drew1) | exact HB.out)) hb); clear HO108; clear HB; have HO108 := n0_; have HB := n1_; clear n0_ n1_; (try clear hb); (try clear hb2); (try clear hk); (try clear hi)))
      go_ret
      exact ⟨by first | rfl | (simp [errW_none, errW_some] <;> rfl) | (simp [*, errW_none, errW_some] <;> rfl), by repeat (first | (with_reducible first | exact HB.out | apply below_alloc | apply pw_below_drewN | apply below_drew1) | exact HB.out)⟩
    · rw [if_neg c3] at H
      have c3b0 : (t110 == 2) = false := beq_eq_false_iff_ne.mpr c3
      have c3b1 : (t110 != 2) = true := bne_iff_ne.mpr c3
      obtain rfl := Option.some.inj H
      go_enter Tryd.func12, Tryd.ntmps12
      go_wp2_with (first | ((with_reducible refine gate_dst (N := 4) rfl ?_); refine Kd.R_lit (Kd.int .u8) _ 5 ?hg (N := 4) ?hd (xs := ([97, 13, 10, 0] : List Int)) (inner := [.int .u8 97, .int .u8 13, .int .u8 10, .int .u8 0]) (ok := fun _ => True) (okp := fun _ => True) ?hr ?hp (fun _ hk => hk) trivial (Below.refl _ _) (Nat.le_refl _) (by simp) ?_; (case hd => rfl); (case hg => rfl); (case hr => first | (go_simp; done) | (go_simp; rfl)); (case hp => exact (Reps.one (show Kd.M (Kd.int .u8) _ _ _ 97 [.int .u8 97] from rfl) (Reps.one (show Kd.M (Kd.int .u8) _ _ _ 13 [.int .u8 13] from rfl) (Reps.one (show Kd.M (Kd.int .u8) _ _ _ 10 [.int .u8 10] from rfl) (Reps.one (show Kd.M (Kd.int .u8) _ _ _ 0 [.int .u8 0] from rfl) (Reps.none _ _)))))); intro v107 w10 ho11 hb hg_ hnew_; clear hg_ hnew_; (first | rw [← Ny106.out] at ho11 | (simp only [Int.reduceToNat] at ho11; rw [← Ny106.out] at ho11)); have n0_ := Aside0.mk (Kd.R_lower ho11 (below_size (by repeat (first | (with_reducible first | exact HB.out | apply below_alloc | apply pw_below_drewN | apply below_drew1) | exact HB.out)))); have n1_ := Aside0.mk (below_step (by repeat (first | (with_reducible first | exact HB.out | apply below_alloc | apply pw_below_drewN | apply below_drew1) | exact HB.out)) hb); clear HB; have HO108 := n0_; have HB := n1_; clear n0_ n1_; clear hb ho11; obtain ⟨Ao12, co12, eo12⟩ := Kd.R_slice HO108.out; subst eo12) | ((with_reducible refine gate_callee (f := 13) rfl ?_); refine goesL_ (some 7) rfl rfl Tryd.func13 (by kernel_rfl) rfl #[.slice Ao12 y106.length co12, .int .i64 1] rfl (by (try simp only [List.map_toArray, List.map_cons, List.map_nil]); first | done | rfl | (simp only [List.length_drop, List.length_take]; rfl)) ?_; (with_reducible refine (char_Next.calls k _ _ y106 1 t109 t110 _ (Wok_below hW (by repeat (first | (with_reducible first | exact HB.out | apply below_alloc | apply pw_below_drewN | apply below_drew1) | exact HB.out))) ?side1 ?side2 A1.out).mono ?_); (case side1 => repeat (first | exact (Kd.R_reads' HO108.out).2.2 | (with_reducible refine Kd.C_alloc ?_ _) | (with_reducible refine Kd.C_drewN ?_ _) | (with_reducible refine Kd.C_drew ?_))); (case side2 => exact (Kd.R_reads' HO108.out).2.1); rintro e w13 ⟨rfl, hb⟩; refine ⟨_, rfl, ?_⟩; have n0_ := Aside0.mk (Kd.R_below (by (with_reducible repeat (first | apply Kd.R_alloc | apply Kd.R_drewN | apply Kd.R_drew)); exact HO108.out) hb); have n1_ := Aside0.mk (below_step (by repeat (first | (with_reducible first | exact HB.out | apply below_alloc | apply pw_below_drewN | apply below_drew1) | exact HB.out)) hb); clear HO108; clear HB; have HO108 := n0_; have HB := n1_; clear n0_ n1_; (try clear hb); (try clear hb2); (try clear hk); (try clear hi)))
      go_ret
      exact ⟨by first | rfl | (simp [errW_none, errW_some] <;> rfl) | (simp [*, errW_none, errW_some] <;> rfl), by repeat (first | (with_reducible first | exact HB.out | apply below_alloc | apply pw_below_drewN | apply below_drew1) | exact HB.out)⟩
  · rw [if_neg c2] at H
    have c2b0 : (t109 == 10) = false := beq_eq_false_iff_ne.mpr c2
    have c2b1 : (t109 != 10) = true := bne_iff_ne.mpr c2
    obtain rfl := Option.some.inj H
    go_enter Tryd.func12, Tryd.ntmps12
    go_wp2_with (first | ((with_reducible refine gate_dst (N := 4) rfl ?_); refine Kd.R_lit (Kd.int .u8) _ 5 ?hg (N := 4) ?hd (xs := ([97, 13, 10, 0] : List Int)) (inner := [.int .u8 97, .int .u8 13, .int .u8 10, .int .u8 0]) (ok := fun _ => True) (okp := fun _ => True) ?hr ?hp (fun _ hk => hk) trivial (Below.refl _ _) (Nat.le_refl _) (by simp) ?_; (case hd => rfl); (case hg => rfl); (case hr => first | (go_simp; done) | (go_simp; rfl)); (case hp => exact (Reps.one (show Kd.M (Kd.int .u8) _ _ _ 97 [.int .u8 97] from rfl) (Reps.one (show Kd.M (Kd.int .u8) _ _ _ 13 [.int .u8 13] from rfl) (Reps.one (show Kd.M (Kd.int .u8) _ _ _ 10 [.int .u8 10] from rfl) (Reps.one (show Kd.M (Kd.int .u8) _ _ _ 0 [.int .u8 0] from rfl) (Reps.none _ _)))))); intro v107 w14 ho15 hb hg_ hnew_; clear hg_ hnew_; (first | rw [← Ny106.out] at ho15 | (simp only [Int.reduceToNat] at ho15; rw [← Ny106.out] at ho15)); have n0_ := Aside0.mk (Kd.R_lower ho15 (below_size (by repeat (first | (with_reducible first | exact HB.out | apply below_alloc | apply pw_below_drewN | apply below_drew1) | exact HB.out)))); have n1_ := Aside0.mk (below_step (by repeat (first | (with_reducible first | exact HB.out | apply below_alloc | apply pw_below_drewN | apply below_drew1) | exact HB.out)) hb); clear HB; have HO108 := n0_; have HB := n1_; clear n0_ n1_; clear hb ho15; obtain ⟨Ao16, co16, eo16⟩ := Kd.R_slice HO108.out; subst eo16) | ((with_reducible refine gate_callee (f := 13) rfl ?_); refine goesL_ (some 7) rfl rfl Tryd.func13 (by kernel_rfl) rfl #[.slice Ao16 y106.length co16, .int .i64 1] rfl (by (try simp only [List.map_toArray, List.map_cons, List.map_nil]); first | done | rfl | (simp only [List.length_drop, List.length_take]; rfl)) ?_; (with_reducible refine (char_Next.calls k _ _ y106 1 t109 t110 _ (Wok_below hW (by repeat (first | (with_reducible first | exact HB.out | apply below_alloc | apply pw_below_drewN | apply below_drew1) | exact HB.out))) ?side1 ?side2 A1.out).mono ?_); (case side1 => repeat (first | exact (Kd.R_reads' HO108.out).2.2 | (with_reducible refine Kd.C_alloc ?_ _) | (with_reducible refine Kd.C_drewN ?_ _) | (with_reducible refine Kd.C_drew ?_))); (case side2 => exact (Kd.R_reads' HO108.out).2.1); rintro e w17 ⟨rfl, hb⟩; refine ⟨_, rfl, ?_⟩; have n0_ := Aside0.mk (Kd.R_below (by (with_reducible repeat (first | apply Kd.R_alloc | apply Kd.R_drewN | apply Kd.R_drew)); exact HO108.out) hb); have n1_ := Aside0.mk (below_step (by repeat (first | (with_reducible first | exact HB.out | apply below_alloc | apply pw_below_drewN | apply below_drew1) | exact HB.out)) hb); clear HO108; clear HB; have HO108 := n0_; have HB := n1_; clear n0_ n1_; (try clear hb); (try clear hb2); (try clear hk); (try clear hi)))
    go_ret
    exact ⟨by first | rfl | (simp [errW_none, errW_some] <;> rfl) | (simp [*, errW_none, errW_some] <;> rfl), by repeat (first | (with_reducible first | exact HB.out | apply below_alloc | apply pw_below_drewN | apply below_drew1) | exact HB.out)⟩

/-! ### decanterref02_more: function 46 -/
def decanterref02_more.f (l0 : List Int) (a1 : Int) : Option (Bool) := if a1 < (l0.length : Int) then (if 0 ≤ a1 then (if (rd l0 a1) ≥ 128 then (some (decide ((rd l0 a1) < 192))) else (some false)) else (none)) else (some false)
set_option maxHeartbeats 8000000 in
set_option maxRecDepth 100000 in
theorem decanterref02_more.calls (A0 : Option Addr) (c0 : Nat) (l0 : List Int) (a1 : Int) (r : Bool) (w : World) (hr0 : Kd.C (Kd.int .u8) w A0 l0.length l0) (hc0 : l0.length ≤ c0) (h : decanterref02_more.f l0 a1 = some r) :
    Calls Tryd.prog 46 #[.slice A0 l0.length c0, .int .i64 a1] w fun e w' => e = .returned (.bool r) ∧ Drawn0 w w' := by
  have HR0 := Aside0.mk hr0
  have HC0 := Aside0.mk hc0
  clear hr0 hc0
  have H : (if a1 < (l0.length : Int) then (if 0 ≤ a1 then (if (rd l0 a1) ≥ 128 then (some (decide ((rd l0 a1) < 192))) else (some false)) else (none)) else (some false)) = some r := h
  clear h
  by_cases c3 : a1 < (l0.length : Int)
  · rw [if_pos c3] at H
    have c3b0 : decide (a1 < (l0.length : Int)) = true := decide_eq_true c3
    clear c3
    by_cases c4 : 0 ≤ a1
    · rw [if_pos c4] at H
      have c4b0 : decide (0 ≤ a1) = true := decide_eq_true c4
      clear c4
      by_cases c5 : (rd l0 a1) ≥ 128
      · rw [if_pos c5] at H
        have c5b0 : decide (128 ≤ (rd l0 a1)) = true := decide_eq_true c5
        clear c5
        obtain rfl := Option.some.inj H
        have p112 : 0 ≤ (a1 : Int) := of_decide_eq_true (by first | (with_reducible assumption) | assumption)
        have q112 : a1 < (l0.length : Int) := of_decide_eq_true (by first | (with_reducible assumption) | assumption)
        obtain ⟨ad112, e112, hx112_0⟩ := Kd.at_int HR0.out a1 p112 q112
        cases e112
        replace p112 := eq_true p112
        replace q112 := eq_true q112
        have p113 : 0 ≤ (a1 : Int) := of_decide_eq_true (by first | (with_reducible assumption) | assumption)
        have q113 : a1 < (l0.length : Int) := of_decide_eq_true (by first | (with_reducible assumption) | assumption)
        obtain ⟨ad113, e113, hx113_0⟩ := Kd.at_int HR0.out a1 p113 q113
        obtain rfl : ad112 = ad113 := (by injection e113)
        replace p113 := eq_true p113
        replace q113 := eq_true q113
        go_enter Tryd.func46, Tryd.ntmps46
        go_wp2
        go_ret
        exact ⟨by first | rfl | (simp; done) | (simp [*]; done), by repeat (first | exact Drawn0.refl _ | apply Drawn0.step)⟩
      · rw [if_neg c5] at H
        have c5b0 : decide (128 ≤ (rd l0 a1)) = false := decide_eq_false c5
        clear c5
        obtain rfl := Option.some.inj H
        have p112 : 0 ≤ (a1 : Int) := of_decide_eq_true (by first | (with_reducible assumption) | assumption)
        have q112 : a1 < (l0.length : Int) := of_decide_eq_true (by first | (with_reducible assumption) | assumption)
        obtain ⟨ad112, e112, hx112_0⟩ := Kd.at_int HR0.out a1 p112 q112
        cases e112
        replace p112 := eq_true p112
        replace q112 := eq_true q112
        go_enter Tryd.func46, Tryd.ntmps46
        go_wp2
        go_ret
        exact ⟨by first | rfl | (simp; done) | (simp [*]; done), by repeat (first | exact Drawn0.refl _ | apply Drawn0.step)⟩
    · rw [if_neg c4] at H
      exact absurd H (by simp)
  · rw [if_neg c3] at H
    have c3b0 : decide (a1 < (l0.length : Int)) = false := decide_eq_false c3
    clear c3
    obtain rfl := Option.some.inj H
    go_enter Tryd.func46, Tryd.ntmps46
    go_wp2
    go_ret
    exact ⟨by first | rfl | (simp; done) | (simp [*]; done), by repeat (first | exact Drawn0.refl _ | apply Drawn0.step)⟩

end Go.Proofs.YtinjbabmpnljoaaDoor.PChar
