-- Laid by a program of this session (tools/patch_print.py) out of the translation. Not trusted: Lean checks it.
import Derived.Test.YtnmjocoopbfpnaaDoorPRefAx0
import Derived.Test.YtnmjocoopbfpnaaDoorPRefAx1
import Derived.Test.YtnmjocoopbfpnaaDoorPRefAx3
namespace Go.Proofs.YtnmjocoopbfpnaaDoor.PRefA
open Go.RowKit Go.Proofs.YtnmjocoopbfpnaaDoorW.PrintWords Go.Proofs.YtnmjocoopbfpnaaDoorW.PrintLast Go.Proofs.YtnmjocoopbfpnaaDoorW.PrintMore
attribute [local go_sem] max2_int min2_int max_two min_two max_three min_three max_four min_four   -- for this text's walks alone
set_option linter.unusedVariables false
set_option linter.unusedSimpArgs false

/-! ### decanterlaw05_speaks: function 19 -/
def decanterlaw05_speaks.f : Option Bool := some true
theorem decanterlaw05_speaks.bytesC (w : World) (L : List Int) (e : TypeId) (fr : Nat × Nat) (hL : L.length ≤ 9223372036854775807) : Kd.C (Kd.int .u8) (w.alloc (.cells (L.map (Value.int .u8)).toArray e fr)) (some ⟨w.heap.size, 0, none⟩) L.length L := by
  refine Kd.C_of_reads (d := (0 : Int)) (h1 := fun _ => rfl) ⟨rfl, hL, fun _ => ⟨_, rfl, fun j hj => ?_⟩⟩
  have h1 := World.cell?_alloc_mark w (L.map (Value.int .u8)).toArray e fr j
  have h2 : (⟨w.heap.size, 0, none⟩ : Addr).add j = ⟨w.heap.size, j, none⟩ := by simp [Addr.add]; exact fun h => h.symm
  rw [h2, h1]
  simp [List.getD_eq_getElem?_getD, List.getElem?_eq_getElem hj]
theorem decanterlaw05_speaks.t1 : ref_Text.f 30 [38, 108, 116, 59, 98, 32, 38, 35, 51, 51] 0 10 false = some ⟨#[60, 98, 32, 33]⟩ := by decide +kernel
theorem decanterlaw05_speaks.t2 : ref_Text.f 30 [38, 99, 111, 112, 121, 61, 49] 0 7 true = some ⟨#[38, 99, 111, 112, 121, 61, 49]⟩ := by decide +kernel
theorem decanterlaw05_speaks.alloc_size (w : World) (o : Obj) : (w.alloc o).heap.size = w.heap.size + 1 := Array.size_push ..
set_option maxRecDepth 100000 in
set_option maxHeartbeats 4000000 in
theorem decanterlaw05_speaks.calls (r : Bool) (w : World) (hW : Wok w) (h : decanterlaw05_speaks.f = some r) :
    Calls Tryd.prog 19 #[] w fun e w' => e = .returned (.bool r) ∧ Below w.heap.size w w' := by
  obtain rfl := Option.some.inj h
  have kc := fun (w : World) (C : Array Value) (n c : Nat) => Lib.run_convert_bytes_const (P := Tryd.prog) w 37 5 C n c Tryd.underlying37 Tryd.underlying5
  have kc2 : ∀ (w : World) (O : Obj) (C : Array Value) (n c : Nat), (convert 37 37 (.slice (some ⟨w.heap.size + 1, 0, none⟩) n c)).run Tryd.prog ((w.alloc O).alloc (.cells C 5)) = .ok (.slice (some ⟨w.heap.size + 1, 0, none⟩) n c) ((w.alloc O).alloc (.cells C 5 (C.size, C.size + 1))) := fun w O C n c => by
    have q := kc (w.alloc O) C n c
    rwa [decanterlaw05_speaks.alloc_size] at q
  have hb0 : Below w.heap.size w (w.alloc (.cells ([38, 108, 116, 59, 98, 32, 38, 35, 51, 51].map (Value.int .u8)).toArray 5 (10, 11))) := (Below.refl _ _).alloc (Nat.le_refl _) _
  have hA := decanterlaw05_speaks.bytesC w [38, 108, 116, 59, 98, 32, 38, 35, 51, 51] 5 (10, 11) (by decide)
  have hs := decanterlaw05_speaks.alloc_size w (.cells ([38, 108, 116, 59, 98, 32, 38, 35, 51, 51].map (Value.int .u8)).toArray 5 (10, 11))
  have hB := decanterlaw05_speaks.bytesC (w.alloc (.cells ([38, 108, 116, 59, 98, 32, 38, 35, 51, 51].map (Value.int .u8)).toArray 5 (10, 11))) [38, 99, 111, 112, 121, 61, 49] 5 (7, 8) (by decide)
  have hb1 : Below (w.alloc (.cells ([38, 108, 116, 59, 98, 32, 38, 35, 51, 51].map (Value.int .u8)).toArray 5 (10, 11))).heap.size _ _ := (Below.refl (w.alloc (.cells ([38, 108, 116, 59, 98, 32, 38, 35, 51, 51].map (Value.int .u8)).toArray 5 (10, 11))).heap.size (w.alloc (.cells ([38, 108, 116, 59, 98, 32, 38, 35, 51, 51].map (Value.int .u8)).toArray 5 (10, 11)))).alloc (Nat.le_refl _) (.cells ([38, 99, 111, 112, 121, 61, 49].map (Value.int .u8)).toArray 5 (7, 8))
  have hA1 := Kd.C_below hA hb1
  have hb2 := hb0.trans (hb1.mono hb0.size)
  rw [hs] at hB
  have HW := Wok_below hW hb2
  obtain ⟨x, hx⟩ : ∃ x : ByteArray, x = ⟨#[60, 98, 32, 33]⟩ := ⟨_, rfl⟩
  obtain ⟨y, hy⟩ : ∃ y : ByteArray, y = ⟨#[38, 99, 111, 112, 121, 61, 49]⟩ := ⟨_, rfl⟩
  have hx0 : (x.toList == ([60, 98, 32, 33] : List UInt8)) = true := by
    rw [hx]
    decide +kernel
  have hy0 : (y.toList == ([38, 99, 111, 112, 121, 61, 49] : List UInt8)) = true := by
    rw [hy]
    decide +kernel
  have C1 : Hid (Calls Tryd.prog 20 #[.slice (some ⟨w.heap.size, 0, none⟩) 10 10, .int .i64 0, .int .i64 10, .bool false] ((w.alloc (.cells #[.int .u8 38, .int .u8 108, .int .u8 116, .int .u8 59, .int .u8 98, .int .u8 32, .int .u8 38, .int .u8 35, .int .u8 51, .int .u8 51] 5 (10, 11))).alloc (.cells #[.int .u8 38, .int .u8 99, .int .u8 111, .int .u8 112, .int .u8 121, .int .u8 61, .int .u8 49] 5 (7, 8))) fun e w' => e = .returned (.string x) ∧ Below ((w.alloc (.cells #[.int .u8 38, .int .u8 108, .int .u8 116, .int .u8 59, .int .u8 98, .int .u8 32, .int .u8 38, .int .u8 35, .int .u8 51, .int .u8 51] 5 (10, 11))).alloc (.cells #[.int .u8 38, .int .u8 99, .int .u8 111, .int .u8 112, .int .u8 121, .int .u8 61, .int .u8 49] 5 (7, 8))).heap.size ((w.alloc (.cells #[.int .u8 38, .int .u8 108, .int .u8 116, .int .u8 59, .int .u8 98, .int .u8 32, .int .u8 38, .int .u8 35, .int .u8 51, .int .u8 51] 5 (10, 11))).alloc (.cells #[.int .u8 38, .int .u8 99, .int .u8 111, .int .u8 112, .int .u8 121, .int .u8 61, .int .u8 49] 5 (7, 8))) w') := Lib.hid (hx ▸ ref_Text.calls 30 (some ⟨w.heap.size, 0, none⟩) 10 [38, 108, 116, 59, 98, 32, 38, 35, 51, 51] 0 10 false _ _ HW hA1 (by decide) decanterlaw05_speaks.t1)
  have C2 : Hid (∀ w1, Below ((w.alloc (.cells #[.int .u8 38, .int .u8 108, .int .u8 116, .int .u8 59, .int .u8 98, .int .u8 32, .int .u8 38, .int .u8 35, .int .u8 51, .int .u8 51] 5 (10, 11))).alloc (.cells #[.int .u8 38, .int .u8 99, .int .u8 111, .int .u8 112, .int .u8 121, .int .u8 61, .int .u8 49] 5 (7, 8))).heap.size ((w.alloc (.cells #[.int .u8 38, .int .u8 108, .int .u8 116, .int .u8 59, .int .u8 98, .int .u8 32, .int .u8 38, .int .u8 35, .int .u8 51, .int .u8 51] 5 (10, 11))).alloc (.cells #[.int .u8 38, .int .u8 99, .int .u8 111, .int .u8 112, .int .u8 121, .int .u8 61, .int .u8 49] 5 (7, 8))) w1 → Calls Tryd.prog 20 #[.slice (some ⟨w.heap.size + 1, 0, none⟩) 7 7, .int .i64 0, .int .i64 7, .bool true] w1 fun e w' => e = .returned (.string y) ∧ Below w1.heap.size w1 w') := Lib.hid (fun w1 hb1 => hy ▸ ref_Text.calls 30 (some ⟨w.heap.size + 1, 0, none⟩) 7 [38, 99, 111, 112, 121, 61, 49] 0 7 true _ _ (Wok_below HW hb1) (Kd.C_below hB hb1) (by decide) decanterlaw05_speaks.t2)
  have HB2 : Hid (Below w.heap.size w ((w.alloc (.cells #[.int .u8 38, .int .u8 108, .int .u8 116, .int .u8 59, .int .u8 98, .int .u8 32, .int .u8 38, .int .u8 35, .int .u8 51, .int .u8 51] 5 (10, 11))).alloc (.cells #[.int .u8 38, .int .u8 99, .int .u8 111, .int .u8 112, .int .u8 121, .int .u8 61, .int .u8 49] 5 (7, 8)))) := Lib.hid hb2
  clear hW h hA hb0 hb1 hA1 hB hb2 hs HW hx hy
  go_enter Tryd.func19, Tryd.ntmps19
  go_wp2_with (go_at_call 20; first | (refine C1.out.mono ?_; rintro e w1 ⟨rfl, hb1⟩; have HB1 := Lib.hid (HB2.out.trans (hb1.mono HB2.out.size)); have C3 := Lib.hid (C2.out _ hb1); clear hb1 C1 C2 HB2) | (refine C3.out.mono ?_; rintro e w2 ⟨rfl, hb2⟩))
  go_ret
  exact ⟨rfl, HB1.out.trans (hb2.mono HB1.out.size)⟩

/-! ### decanterref05_Point: function 26 -/
def decanterref05_Point.j0 : Nat → Int → Bool → Option (Int)
  | 0, _, _ => none
  | k + 1, x0, x17 => if x17 = true then (some 65533) else (if x0 < 128 then (some x0) else (if x0 > 159 then (some x0) else ((some (([8364, 129, 8218, 402, 8222, 8230, 8224, 8225, 710, 8240, 352, 8249, 338, 141, 381, 143, 144, 8216, 8217, 8220, 8221, 8226, 8211, 8212, 732, 8482, 353, 8250, 339, 157, 382, 376] : List Int) : List Int)).bind fun y142 => (if 0 ≤ (wrap64 (x0 - 128)) then (if (wrap64 (x0 - 128)) < (y142.length : Int) then (some (rd y142 (wrap64 (x0 - 128)))) else (none)) else (none)))))
def decanterref05_Point.f (k : Nat) (a0 : Int) : Option (Int) := if a0 ≤ 0 then (decanterref05_Point.j0 k a0 true) else (if a0 > 1114111 then (decanterref05_Point.j0 k a0 true) else (if a0 ≥ 55296 then (decanterref05_Point.j0 k a0 (decide (a0 ≤ 57343))) else (decanterref05_Point.j0 k a0 false)))
theorem decanterref05_Point.mono_l : ∀ k, (∀ y0 y1, LeO (decanterref05_Point.j0 k y0 y1) (decanterref05_Point.j0 (k + 1) y0 y1))
  | 0 => fun _ _ r h => by simp [decanterref05_Point.j0] at h
  | k + 1 => by
    have ih0 := decanterref05_Point.mono_l k
    · intro y0 y1
      unfold decanterref05_Point.j0
      repeat' first
      | (with_reducible exact ih0 _ _)
      | (with_reducible exact LeO.refl _)
      | (with_reducible exact LeO.none _)
      | (with_reducible refine LeO.ite ?_ ?_)
      | (with_reducible refine LeO.bind ?_ (fun _ => ?_))
      | exact ih0 _ _
      | exact LeO.none _
      | refine LeO.ite ?_ ?_
      | refine LeO.bind ?_ (fun _ => ?_)
theorem decanterref05_Point.mono : ∀ a0 k, LeO (decanterref05_Point.f k a0) (decanterref05_Point.f (k + 1) a0) := by
  intro a0 k
  have ih0 := decanterref05_Point.mono_l k
  unfold decanterref05_Point.f
  repeat' first
      | (with_reducible exact ih0 _ _)
      | (with_reducible exact LeO.refl _)
      | (with_reducible exact LeO.none _)
      | (with_reducible refine LeO.ite ?_ ?_)
      | (with_reducible refine LeO.bind ?_ (fun _ => ?_))
      | exact ih0 _ _
      | exact LeO.none _
      | refine LeO.ite ?_ ?_
      | refine LeO.bind ?_ (fun _ => ?_)
set_option maxHeartbeats 8000000 in
set_option maxRecDepth 100000 in
theorem decanterref05_Point.calls (k : Nat) (a0 : Int) (r : Int) (w : World) (h : decanterref05_Point.f k a0 = some r) :
    Calls Tryd.prog 26 #[.int .i64 a0] w fun e w' => e = .returned (.int .i64 r) ∧ Below w.heap.size w w' := by
  have HB := Aside0.mk (Below.refl w.heap.size w)
  have H : (if a0 ≤ 0 then (decanterref05_Point.j0 k a0 true) else (if a0 > 1114111 then (decanterref05_Point.j0 k a0 true) else (if a0 ≥ 55296 then (decanterref05_Point.j0 k a0 (decide (a0 ≤ 57343))) else (decanterref05_Point.j0 k a0 false)))) = some r := h
  clear h
  have HC2 := Aside0.mk H
  clear H
  go_enter Tryd.func26, Tryd.ntmps26
  go_upto_region 1 with (fail)
  go_cut [17] (fun v17 wc => ∃ (kq : Nat) (x17_1 : Bool), v17 = .bool x17_1 ∧ Aside0 (decanterref05_Point.j0 kq a0 x17_1 = some r) ∧ Aside0 (kq ≤ k) ∧ Aside0 (Below w.heap.size w wc))
  case first =>
    have H := HC2.out
    clear HC2
    by_cases c3 : a0 ≤ 0
    · rw [if_pos c3] at H
      have c3b0 : decide (a0 ≤ 0) = true := decide_eq_true c3
      clear c3
      (first | rw [c3b0] | (simp only [i64_w, i32_w]; rw [c3b0]) | skip)
      have H' := Aside0.mk H
      clear H
      go_wp2
      go_meet
      case rel => exact ⟨_, (true), (by first | rfl | (simp; done) | (simp [*]; done)), H', ⟨by first | omega | exact Nat.le_refl _⟩, ⟨by repeat (first | (with_reducible first | exact HB.out | apply below_alloc | apply pw_below_drewN | apply below_drew1) | exact HB.out)⟩⟩
    · rw [if_neg c3] at H
      have c3b0 : decide (a0 ≤ 0) = false := decide_eq_false c3
      clear c3
      (first | rw [c3b0] | (simp only [i64_w, i32_w]; rw [c3b0]) | skip)
      by_cases c4 : a0 > 1114111
      · rw [if_pos c4] at H
        have c4b0 : decide (1114111 < a0) = true := decide_eq_true c4
        clear c4
        have H' := Aside0.mk H
        clear H
        go_wp2
        go_meet
        case rel => exact ⟨_, (true), (by first | rfl | (simp; done) | (simp [*]; done)), H', ⟨by first | omega | exact Nat.le_refl _⟩, ⟨by repeat (first | (with_reducible first | exact HB.out | apply below_alloc | apply pw_below_drewN | apply below_drew1) | exact HB.out)⟩⟩
      · rw [if_neg c4] at H
        have c4b0 : decide (1114111 < a0) = false := decide_eq_false c4
        clear c4
        by_cases c5 : a0 ≥ 55296
        · rw [if_pos c5] at H
          have c5b0 : decide (55296 ≤ a0) = true := decide_eq_true c5
          clear c5
          have H' := Aside0.mk H
          clear H
          go_wp2
          go_meet
          case rel => exact ⟨_, (decide (a0 ≤ 57343)), (by first | rfl | (simp; done) | (simp [*]; done)), H', ⟨by first | omega | exact Nat.le_refl _⟩, ⟨by repeat (first | (with_reducible first | exact HB.out | apply below_alloc | apply pw_below_drewN | apply below_drew1) | exact HB.out)⟩⟩
        · rw [if_neg c5] at H
          have c5b0 : decide (55296 ≤ a0) = false := decide_eq_false c5
          clear c5
          have H' := Aside0.mk H
          clear H
          go_wp2
          go_meet
          case rel => exact ⟨_, (false), (by first | rfl | (simp; done) | (simp [*]; done)), H', ⟨by first | omega | exact Nat.le_refl _⟩, ⟨by repeat (first | (with_reducible first | exact HB.out | apply below_alloc | apply pw_below_drewN | apply below_drew1) | exact HB.out)⟩⟩
  case rest =>
    clear HC2
    try clear c2
    try clear p2
    try clear c3
    try clear c3b0
    try clear c4
    try clear c4b0
    try clear c5
    try clear c5b0
    obtain ⟨kq, x17_1, rfl, HA, HJ1, HB⟩ := hcut
    cases kq with
    | zero => exact absurd HA.out (by simp [decanterref05_Point.j0])
    | succ kj1 =>
      have H := HA.out
      clear HA
      simp only [decanterref05_Point.j0] at H
      by_cases c6 : x17_1 = true
      · subst c6
        have H1 : (some 65533) = some r := by rw [if_pos rfl] at H; exact H
        clear H
        have H := H1
        clear H1
        obtain rfl := Option.some.inj H
        go_wp2
        go_ret
        exact ⟨by first | rfl | (simp [errW_none, errW_some] <;> rfl) | (simp [*, errW_none, errW_some] <;> rfl), by repeat (first | (with_reducible first | exact HB.out | apply below_alloc | apply pw_below_drewN | apply below_drew1) | exact HB.out)⟩
      · replace c6 := Bool.eq_false_iff.mpr c6
        subst c6
        have H1 : (if a0 < 128 then (some a0) else (if a0 > 159 then (some a0) else ((some (([8364, 129, 8218, 402, 8222, 8230, 8224, 8225, 710, 8240, 352, 8249, 338, 141, 381, 143, 144, 8216, 8217, 8220, 8221, 8226, 8211, 8212, 732, 8482, 353, 8250, 339, 157, 382, 376] : List Int) : List Int)).bind fun y142 => (if 0 ≤ (wrap64 (a0 - 128)) then (if (wrap64 (a0 - 128)) < (y142.length : Int) then (some (rd y142 (wrap64 (a0 - 128)))) else (none)) else (none))))) = some r := by rw [if_neg (show ¬ (false = true) by decide)] at H; exact H
        clear H
        have H := H1
        clear H1
        by_cases c7 : a0 < 128
        · rw [if_pos c7] at H
          have c7b0 : decide (a0 < 128) = true := decide_eq_true c7
          clear c7
          obtain rfl := Option.some.inj H
          go_wp2
          go_ret
          exact ⟨by first | rfl | (simp [errW_none, errW_some] <;> rfl) | (simp [*, errW_none, errW_some] <;> rfl), by repeat (first | (with_reducible first | exact HB.out | apply below_alloc | apply pw_below_drewN | apply below_drew1) | exact HB.out)⟩
        · rw [if_neg c7] at H
          have c7b0 : decide (a0 < 128) = false := decide_eq_false c7
          clear c7
          by_cases c8 : a0 > 159
          · rw [if_pos c8] at H
            have c8b0 : decide (159 < a0) = true := decide_eq_true c8
            clear c8
            obtain rfl := Option.some.inj H
            go_wp2
            go_ret
            exact ⟨by first | rfl | (simp [errW_none, errW_some] <;> rfl) | (simp [*, errW_none, errW_some] <;> rfl), by repeat (first | (with_reducible first | exact HB.out | apply below_alloc | apply pw_below_drewN | apply below_drew1) | exact HB.out)⟩
          · rw [if_neg c8] at H
            have c8b0 : decide (159 < a0) = false := decide_eq_false c8
            clear c8
            obtain ⟨y142, hy142⟩ : ∃ y_ : List Int, y_ = (([8364, 129, 8218, 402, 8222, 8230, 8224, 8225, 710, 8240, 352, 8249, 338, 141, 381, 143, 144, 8216, 8217, 8220, 8221, 8226, 8211, 8212, 732, 8482, 353, 8250, 339, 157, 382, 376] : List Int)) := ⟨_, rfl⟩
            replace H : (if 0 ≤ (wrap64 (a0 - 128)) then (if (wrap64 (a0 - 128)) < (y142.length : Int) then (some (rd y142 (wrap64 (a0 - 128)))) else (none)) else (none)) = some r := by first | (rw [hy142]; with_reducible exact H) | (have H2_ := (Option.bind_some _ _).symm.trans H; rw [hy142]; with_reducible exact H2_) | (have H2_ := (Option.bind_some _ _).symm.trans H; with_reducible exact H2_) | with_reducible exact H | (rw [hy142]; exact H) | exact H
            have Ny142 := Aside0.mk hy142
            clear hy142
            obtain ⟨ji9, hji9⟩ : ∃ j_ : Int, (wrap64 (a0 - 128)) = j_ := ⟨_, rfl⟩
            replace H : (if 0 ≤ (ji9) then (if (ji9) < (y142.length : Int) then (some (rd y142 (ji9))) else (none)) else (none)) = some r := by first | (rw [hji9] at H; exact H) | (simp only [hji9] at H ⊢; exact H)
            have hji9w : (IntKind.i64.wrap (a0 - 128)) = ji9 := (i64_w _).trans hji9
            by_cases c10 : 0 ≤ (ji9)
            · rw [if_pos c10] at H
              have c10b0 : decide (0 ≤ (ji9)) = true := decide_eq_true c10
              clear c10
              by_cases c11 : (ji9) < (y142.length : Int)
              · rw [if_pos c11] at H
                have c11b0 : decide ((ji9) < (y142.length : Int)) = true := decide_eq_true c11
                clear c11
                obtain rfl := Option.some.inj H
                go_wp2_with (first | ((with_reducible refine gate_dst (N := 25) rfl ?_); refine Kd.R_lit (Kd.int .i64) _ 3 ?hg (N := 25) ?hd (xs := ([8364, 129, 8218, 402, 8222, 8230, 8224, 8225, 710, 8240, 352, 8249, 338, 141, 381, 143, 144, 8216, 8217, 8220, 8221, 8226, 8211, 8212, 732, 8482, 353, 8250, 339, 157, 382, 376] : List Int)) (inner := [.int .i64 8364, .int .i64 129, .int .i64 8218, .int .i64 402, .int .i64 8222, .int .i64 8230, .int .i64 8224, .int .i64 8225, .int .i64 710, .int .i64 8240, .int .i64 352, .int .i64 8249, .int .i64 338, .int .i64 141, .int .i64 381, .int .i64 143, .int .i64 144, .int .i64 8216, .int .i64 8217, .int .i64 8220, .int .i64 8221, .int .i64 8226, .int .i64 8211, .int .i64 8212, .int .i64 732, .int .i64 8482, .int .i64 353, .int .i64 8250, .int .i64 339, .int .i64 157, .int .i64 382, .int .i64 376]) (ok := fun _ => True) (okp := fun _ => True) ?hr ?hp (fun _ hk => hk) trivial (Below.refl _ _) (Nat.le_refl _) (by simp) ?_; (case hd => rfl); (case hg => rfl); (case hr => first | (go_simp; done) | (go_simp; rfl)); (case hp => exact (Reps.one (show Kd.M (Kd.int .i64) _ _ _ 8364 [.int .i64 8364] from rfl) (Reps.one (show Kd.M (Kd.int .i64) _ _ _ 129 [.int .i64 129] from rfl) (Reps.one (show Kd.M (Kd.int .i64) _ _ _ 8218 [.int .i64 8218] from rfl) (Reps.one (show Kd.M (Kd.int .i64) _ _ _ 402 [.int .i64 402] from rfl) (Reps.one (show Kd.M (Kd.int .i64) _ _ _ 8222 [.int .i64 8222] from rfl) (Reps.one (show Kd.M (Kd.int .i64) _ _ _ 8230 [.int .i64 8230] from rfl) (Reps.one (show Kd.M (Kd.int .i64) _ _ _ 8224 [.int .i64 8224] from rfl) (Reps.one (show Kd.M (Kd.int .i64) _ _ _ 8225 [.int .i64 8225] from rfl) (Reps.one (show Kd.M (Kd.int .i64) _ _ _ 710 [.int .i64 710] from rfl) (Reps.one (show Kd.M (Kd.int .i64) _ _ _ 8240 [.int .i64 8240] from rfl) (Reps.one (show Kd.M (Kd.int .i64) _ _ _ 352 [.int .i64 352] from rfl) (Reps.one (show Kd.M (Kd.int .i64) _ _ _ 8249 [.int .i64 8249] from rfl) (Reps.one (show Kd.M (Kd.int .i64) _ _ _ 338 [.int .i64 338] from rfl) (Reps.one (show Kd.M (Kd.int .i64) _ _ _ 141 [.int .i64 141] from rfl) (Reps.one (show Kd.M (Kd.int .i64) _ _ _ 381 [.int .i64 381] from rfl) (Reps.one (show Kd.M (Kd.int .i64) _ _ _ 143 [.int .i64 143] from rfl) (Reps.one (show Kd.M (Kd.int .i64) _ _ _ 144 [.int .i64 144] from rfl) (Reps.one (show Kd.M (Kd.int .i64) _ _ _ 8216 [.int .i64 8216] from rfl) (Reps.one (show Kd.M (Kd.int .i64) _ _ _ 8217 [.int .i64 8217] from rfl) (Reps.one (show Kd.M (Kd.int .i64) _ _ _ 8220 [.int .i64 8220] from rfl) (Reps.one (show Kd.M (Kd.int .i64) _ _ _ 8221 [.int .i64 8221] from rfl) (Reps.one (show Kd.M (Kd.int .i64) _ _ _ 8226 [.int .i64 8226] from rfl) (Reps.one (show Kd.M (Kd.int .i64) _ _ _ 8211 [.int .i64 8211] from rfl) (Reps.one (show Kd.M (Kd.int .i64) _ _ _ 8212 [.int .i64 8212] from rfl) (Reps.one (show Kd.M (Kd.int .i64) _ _ _ 732 [.int .i64 732] from rfl) (Reps.one (show Kd.M (Kd.int .i64) _ _ _ 8482 [.int .i64 8482] from rfl) (Reps.one (show Kd.M (Kd.int .i64) _ _ _ 353 [.int .i64 353] from rfl) (Reps.one (show Kd.M (Kd.int .i64) _ _ _ 8250 [.int .i64 8250] from rfl) (Reps.one (show Kd.M (Kd.int .i64) _ _ _ 339 [.int .i64 339] from rfl) (Reps.one (show Kd.M (Kd.int .i64) _ _ _ 157 [.int .i64 157] from rfl) (Reps.one (show Kd.M (Kd.int .i64) _ _ _ 382 [.int .i64 382] from rfl) (Reps.one (show Kd.M (Kd.int .i64) _ _ _ 376 [.int .i64 376] from rfl) (Reps.none _ _)))))))))))))))))))))))))))))))))); intro v143 w12 ho13 hb hg_ hnew_; clear hg_ hnew_; (first | rw [← Ny142.out] at ho13 | (simp only [Int.reduceToNat] at ho13; rw [← Ny142.out] at ho13)); have n0_ := Aside0.mk (Kd.R_lower ho13 (below_size (by repeat (first | (with_reducible first | exact HB.out | apply below_alloc | apply pw_below_drewN | apply below_drew1) | exact HB.out)))); have n1_ := Aside0.mk (below_step (by repeat (first | (with_reducible first | exact HB.out | apply below_alloc | apply pw_below_drewN | apply below_drew1) | exact HB.out)) hb); clear HB; have HO144 := n0_; have HB := n1_; clear n0_ n1_; clear hb ho13; obtain ⟨Ao14, co14, eo14⟩ := Kd.R_slice HO144.out; subst eo14; have p145 : 0 ≤ ((ji9) : Int) := of_decide_eq_true (by first | (with_reducible assumption) | assumption); have q145 : (ji9) < (y142.length : Int) := of_decide_eq_true (by first | (with_reducible assumption) | assumption); obtain ⟨ad145, e145, hx145_0⟩ := Kd.at_int (Kd.R_reads' HO144.out).2.2 (ji9) p145 q145; cases e145; replace p145 := eq_true p145; replace q145 := eq_true q145))
                go_ret
                exact ⟨by first | rfl | (simp [errW_none, errW_some] <;> rfl) | (simp only [← hji9]; first | rfl | (simp [errW_none, errW_some] <;> rfl)) | (simp [*, errW_none, errW_some] <;> rfl), by repeat (first | (with_reducible first | exact HB.out | apply below_alloc | apply pw_below_drewN | apply below_drew1) | exact HB.out)⟩
              · rw [if_neg c11] at H
                exact absurd H (by simp)
            · rw [if_neg c10] at H
              exact absurd H (by simp)

/-! ### decanterlaw05_RefPoints: function 10 -/
def decanterlaw05_RefPoints.l0 : Nat → Int → Int → Option (Bool)
  | 0, _, _ => none
  | k + 1, x0, x3 => if x3 < 300 then ((ref_Point.f x3).bind fun t149 => ((decanterref05_Point.f k x3).bind fun t150 => (if (wrap64 (t149)) = t150 then (decanterlaw05_RefPoints.l0 k x0 (wrap64 (x3 + 1))) else (some false)))) else ((ref_Point.f x0).bind fun t147 => ((decanterref05_Point.f k x0).bind fun t148 => (some ((wrap64 (t147)) == t148))))
def decanterlaw05_RefPoints.f (k : Nat) (a0 : Int) : Option (Bool) := (decanterlaw05_speaks.f).bind fun t146 => (if t146 = true then (decanterlaw05_RefPoints.l0 k a0 (-1)) else (some false))
theorem decanterlaw05_RefPoints.mono_l : ∀ k, (∀ y0 y1, LeO (decanterlaw05_RefPoints.l0 k y0 y1) (decanterlaw05_RefPoints.l0 (k + 1) y0 y1))
  | 0 => fun _ _ r h => by simp [decanterlaw05_RefPoints.l0] at h
  | k + 1 => by
    have ih0 := decanterlaw05_RefPoints.mono_l k
    · intro y0 y1
      unfold decanterlaw05_RefPoints.l0
      repeat' first
      | (with_reducible exact ih0 _ _)
      | (with_reducible exact decanterref05_Point.mono _ _)
      | (with_reducible exact LeO.refl _)
      | (with_reducible exact LeO.none _)
      | (with_reducible refine LeO.ite ?_ ?_)
      | (with_reducible refine LeO.bind ?_ (fun _ => ?_))
      | exact ih0 _ _
      | exact decanterref05_Point.mono _ _
      | exact LeO.none _
      | refine LeO.ite ?_ ?_
      | refine LeO.bind ?_ (fun _ => ?_)
theorem decanterlaw05_RefPoints.mono : ∀ a0 k, LeO (decanterlaw05_RefPoints.f k a0) (decanterlaw05_RefPoints.f (k + 1) a0) := by
  intro a0 k
  have ih0 := decanterlaw05_RefPoints.mono_l k
  unfold decanterlaw05_RefPoints.f
  repeat' first
      | (with_reducible exact ih0 _ _)
      | (with_reducible exact decanterref05_Point.mono _ _)
      | (with_reducible exact LeO.refl _)
      | (with_reducible exact LeO.none _)
      | (with_reducible refine LeO.ite ?_ ?_)
      | (with_reducible refine LeO.bind ?_ (fun _ => ?_))
      | exact ih0 _ _
      | exact decanterref05_Point.mono _ _
      | exact LeO.none _
      | refine LeO.ite ?_ ?_
      | refine LeO.bind ?_ (fun _ => ?_)
set_option maxHeartbeats 8000000 in
set_option maxRecDepth 100000 in
theorem decanterlaw05_RefPoints.calls (k : Nat) (a0 : Int) (r : Bool) (w : World) (hW : Wok w) (h : decanterlaw05_RefPoints.f k a0 = some r) :
    Calls Tryd.prog 10 #[.int .i64 a0] w fun e w' => e = .returned (.bool r) ∧ Below w.heap.size w w' := by
  have HB := Aside0.mk (Below.refl w.heap.size w)
  have H : ((decanterlaw05_speaks.f).bind fun t146 => (if t146 = true then (decanterlaw05_RefPoints.l0 k a0 (-1)) else (some false))) = some r := h
  clear h
  replace H := Option.bind_eq_some_iff.mp H
  obtain ⟨t146, A20, H⟩ := H
  replace H : (if t146 = true then (decanterlaw05_RefPoints.l0 k a0 (-1)) else (some false)) = some r := H
  have A2 := Aside0.mk A20
  clear A20
  by_cases c3 : t146 = true
  · subst c3
    have H1 : (decanterlaw05_RefPoints.l0 k a0 (-1)) = some r := by rw [if_pos rfl] at H; exact H
    clear H
    have H := H1
    clear H1
    have H' := Aside0.mk H
    clear H
    go_enter Tryd.func10, Tryd.ntmps10
    go_wp2_with (first | ((with_reducible refine gate_callee (f := 19) rfl ?_); refine goesL_ (some 4) rfl rfl Tryd.func19 (by kernel_rfl) rfl #[] rfl (by (try simp only [List.map_toArray, List.map_cons, List.map_nil]); first | done | rfl | (simp only [List.length_drop, List.length_take]; rfl)) ?_; (with_reducible refine (decanterlaw05_speaks.calls  true _ (Wok_below hW (by repeat (first | (with_reducible first | exact HB.out | apply below_alloc | apply pw_below_drewN | apply below_drew1) | exact HB.out))) A2.out).mono ?_); rintro e w4 ⟨rfl, hb⟩; refine ⟨_, rfl, ?_⟩; have n0_ := Aside0.mk (below_step (by repeat (first | (with_reducible first | exact HB.out | apply below_alloc | apply pw_below_drewN | apply below_drew1) | exact HB.out)) hb); clear HB; have HB := n0_; clear n0_; (try clear hb); (try clear hb2); (try clear hk); (try clear hi)))
    go_loopg [3] k (fun kq v3 w' => ∃ (x3_1 : Int), v3 = .int .i64 x3_1 ∧ Aside0 (decanterlaw05_RefPoints.l0 kq a0 x3_1 = some r) ∧ Aside0 (kq ≤ k) ∧ Aside0 (Below w.heap.size w w'))
    case atStart => exact ⟨((-1)), (by first | rfl | (simp; done) | (simp [*]; done)), H', ⟨Nat.le_refl _⟩, ⟨by repeat (first | (with_reducible first | exact HB.out | apply below_alloc | apply pw_below_drewN | apply below_drew1) | exact HB.out)⟩⟩
    case round =>
      clear H'
      try clear c1
      try clear p2
      try clear c3
      obtain ⟨x3_1, rfl, HA, HK1, HB⟩ := hrel
      cases gk with
      | zero => exact absurd HA.out (by simp [decanterlaw05_RefPoints.l0])
      | succ k1 =>
        have H := HA.out
        clear HA
        simp only [decanterlaw05_RefPoints.l0] at H
        by_cases c5 : x3_1 < 300
        · rw [if_pos c5] at H
          have c5b0 : decide (x3_1 < 300) = true := decide_eq_true c5
          clear c5
          replace H := Option.bind_eq_some_iff.mp H
          obtain ⟨t149, A60, H⟩ := H
          replace H : ((decanterref05_Point.f k1 x3_1).bind fun t150 => (if (wrap64 (t149)) = t150 then (decanterlaw05_RefPoints.l0 k1 a0 (wrap64 (x3_1 + 1))) else (some false))) = some r := H
          have A6 := Aside0.mk A60
          clear A60
          replace H := Option.bind_eq_some_iff.mp H
          obtain ⟨t150, A70, H⟩ := H
          replace H : (if (wrap64 (t149)) = t150 then (decanterlaw05_RefPoints.l0 k1 a0 (wrap64 (x3_1 + 1))) else (some false)) = some r := H
          have A7 := Aside0.mk A70
          clear A70
          by_cases c8 : (wrap64 (t149)) = t150
          · rw [if_pos c8] at H
            have c8b0 : ((wrap64 (t149)) == t150) = true := beq_iff_eq.mpr c8
            have c8b1 : ((wrap64 (t149)) != t150) = false := bne_eq_false_iff_eq.mpr c8
            clear c8
            have H' := Aside0.mk H
            clear H
            go_wp2_with (first | ((with_reducible refine gate_callee (f := 25) rfl ?_); refine goesL_ (some 11) rfl rfl Tryd.func25 (by kernel_rfl) rfl #[.int .i64 x3_1] rfl (by (try simp only [List.map_toArray, List.map_cons, List.map_nil]); first | done | rfl | (simp only [List.length_drop, List.length_take]; rfl)) ?_; (with_reducible refine (ref_Point.calls x3_1 t149 _ (Wok_below hW (by repeat (first | (with_reducible first | exact HB.out | apply below_alloc | apply pw_below_drewN | apply below_drew1) | exact HB.out))) A6.out).mono ?_); rintro e w9 ⟨rfl, hb⟩; refine ⟨_, rfl, ?_⟩; have n0_ := Aside0.mk (below_step (by repeat (first | (with_reducible first | exact HB.out | apply below_alloc | apply pw_below_drewN | apply below_drew1) | exact HB.out)) hb); clear HB; have HB := n0_; clear n0_; (try clear hb); (try clear hb2); (try clear hk); (try clear hi)) | ((with_reducible refine gate_callee (f := 26) rfl ?_); refine goesL_ (some 14) rfl rfl Tryd.func26 (by kernel_rfl) rfl #[.int .i64 x3_1] rfl (by (try simp only [List.map_toArray, List.map_cons, List.map_nil]); first | done | rfl | (simp only [List.length_drop, List.length_take]; rfl)) ?_; (with_reducible refine (decanterref05_Point.calls k1 x3_1 t150 _ A7.out).mono ?_); rintro e w10 ⟨rfl, hb⟩; refine ⟨_, rfl, ?_⟩; have n0_ := Aside0.mk (below_step (by repeat (first | (with_reducible first | exact HB.out | apply below_alloc | apply pw_below_drewN | apply below_drew1) | exact HB.out)) hb); clear HB; have HB := n0_; clear n0_; (try clear hb); (try clear hb2); (try clear hk); (try clear hi)))
            go_roundg k1
            case measure => have := HK1.out; omega
            case rel => exact ⟨(wrap64 (x3_1 + 1)), (by first | rfl | (simp; done) | (simp [*]; done)), H', ⟨by have := HK1.out; omega⟩, ⟨by repeat (first | (with_reducible first | exact HB.out | apply below_alloc | apply pw_below_drewN | apply below_drew1) | exact HB.out)⟩⟩
          · rw [if_neg c8] at H
            have c8b0 : ((wrap64 (t149)) == t150) = false := beq_eq_false_iff_ne.mpr c8
            have c8b1 : ((wrap64 (t149)) != t150) = true := bne_iff_ne.mpr c8
            obtain rfl := Option.some.inj H
            go_wp2_with (first | ((with_reducible refine gate_callee (f := 25) rfl ?_); refine goesL_ (some 11) rfl rfl Tryd.func25 (by kernel_rfl) rfl #[.int .i64 x3_1] rfl (by (try simp only [List.map_toArray, List.map_cons, List.map_nil]); first | done | rfl | (simp only [List.length_drop, List.length_take]; rfl)) ?_; (with_reducible refine (ref_Point.calls x3_1 t149 _ (Wok_below hW (by repeat (first | (with_reducible first | exact HB.out | apply below_alloc | apply pw_below_drewN | apply below_drew1) | exact HB.out))) A6.out).mono ?_); rintro e w11 ⟨rfl, hb⟩; refine ⟨_, rfl, ?_⟩; have n0_ := Aside0.mk (below_step (by repeat (first | (with_reducible first | exact HB.out | apply below_alloc | apply pw_below_drewN | apply below_drew1) | exact HB.out)) hb); clear HB; have HB := n0_; clear n0_; (try clear hb); (try clear hb2); (try clear hk); (try clear hi)) | ((with_reducible refine gate_callee (f := 26) rfl ?_); refine goesL_ (some 14) rfl rfl Tryd.func26 (by kernel_rfl) rfl #[.int .i64 x3_1] rfl (by (try simp only [List.map_toArray, List.map_cons, List.map_nil]); first | done | rfl | (simp only [List.length_drop, List.length_take]; rfl)) ?_; (with_reducible refine (decanterref05_Point.calls k1 x3_1 t150 _ A7.out).mono ?_); rintro e w12 ⟨rfl, hb⟩; refine ⟨_, rfl, ?_⟩; have n0_ := Aside0.mk (below_step (by repeat (first | (with_reducible first | exact HB.out | apply below_alloc | apply pw_below_drewN | apply below_drew1) | exact HB.out)) hb); clear HB; have HB := n0_; clear n0_; (try clear hb); (try clear hb2); (try clear hk); (try clear hi)))
            go_ret
            exact ⟨by first | rfl | (simp [errW_none, errW_some] <;> rfl) | (simp [*, errW_none, errW_some] <;> rfl), by repeat (first | (with_reducible first | exact HB.out | apply below_alloc | apply pw_below_drewN | apply below_drew1) | exact HB.out)⟩
        · rw [if_neg c5] at H
          have c5b0 : decide (x3_1 < 300) = false := decide_eq_false c5
          clear c5
          replace H := Option.bind_eq_some_iff.mp H
          obtain ⟨t147, A130, H⟩ := H
          replace H : ((decanterref05_Point.f k1 a0).bind fun t148 => (some ((wrap64 (t147)) == t148))) = some r := H
          have A13 := Aside0.mk A130
          clear A130
          replace H := Option.bind_eq_some_iff.mp H
          obtain ⟨t148, A140, H⟩ := H
          replace H : (some ((wrap64 (t147)) == t148)) = some r := H
          have A14 := Aside0.mk A140
          clear A140
          obtain rfl := Option.some.inj H
          go_wp2_with (first | ((with_reducible refine gate_callee (f := 25) rfl ?_); refine goesL_ (some 17) rfl rfl Tryd.func25 (by kernel_rfl) rfl #[.int .i64 a0] rfl (by (try simp only [List.map_toArray, List.map_cons, List.map_nil]); first | done | rfl | (simp only [List.length_drop, List.length_take]; rfl)) ?_; (with_reducible refine (ref_Point.calls a0 t147 _ (Wok_below hW (by repeat (first | (with_reducible first | exact HB.out | apply below_alloc | apply pw_below_drewN | apply below_drew1) | exact HB.out))) A13.out).mono ?_); rintro e w15 ⟨rfl, hb⟩; refine ⟨_, rfl, ?_⟩; have n0_ := Aside0.mk (below_step (by repeat (first | (with_reducible first | exact HB.out | apply below_alloc | apply pw_below_drewN | apply below_drew1) | exact HB.out)) hb); clear HB; have HB := n0_; clear n0_; (try clear hb); (try clear hb2); (try clear hk); (try clear hi)) | ((with_reducible refine gate_callee (f := 26) rfl ?_); refine goesL_ (some 20) rfl rfl Tryd.func26 (by kernel_rfl) rfl #[.int .i64 a0] rfl (by (try simp only [List.map_toArray, List.map_cons, List.map_nil]); first | done | rfl | (simp only [List.length_drop, List.length_take]; rfl)) ?_; (with_reducible refine (decanterref05_Point.calls k1 a0 t148 _ A14.out).mono ?_); rintro e w16 ⟨rfl, hb⟩; refine ⟨_, rfl, ?_⟩; have n0_ := Aside0.mk (below_step (by repeat (first | (with_reducible first | exact HB.out | apply below_alloc | apply pw_below_drewN | apply below_drew1) | exact HB.out)) hb); clear HB; have HB := n0_; clear n0_; (try clear hb); (try clear hb2); (try clear hk); (try clear hi)))
          go_ret
          exact ⟨by first | rfl | (simp [errW_none, errW_some] <;> rfl) | (simp [*, errW_none, errW_some] <;> rfl), by repeat (first | (with_reducible first | exact HB.out | apply below_alloc | apply pw_below_drewN | apply below_drew1) | exact HB.out)⟩
  · replace c3 := Bool.eq_false_iff.mpr c3
    subst c3
    have H1 : (some false) = some r := by rw [if_neg (show ¬ (false = true) by decide)] at H; exact H
    clear H
    have H := H1
    clear H1
    obtain rfl := Option.some.inj H
    go_enter Tryd.func10, Tryd.ntmps10
    go_wp2_with (first | ((with_reducible refine gate_callee (f := 19) rfl ?_); refine goesL_ (some 4) rfl rfl Tryd.func19 (by kernel_rfl) rfl #[] rfl (by (try simp only [List.map_toArray, List.map_cons, List.map_nil]); first | done | rfl | (simp only [List.length_drop, List.length_take]; rfl)) ?_; (with_reducible refine (decanterlaw05_speaks.calls  false _ (Wok_below hW (by repeat (first | (with_reducible first | exact HB.out | apply below_alloc | apply pw_below_drewN | apply below_drew1) | exact HB.out))) A2.out).mono ?_); rintro e w17 ⟨rfl, hb⟩; refine ⟨_, rfl, ?_⟩; have n0_ := Aside0.mk (below_step (by repeat (first | (with_reducible first | exact HB.out | apply below_alloc | apply pw_below_drewN | apply below_drew1) | exact HB.out)) hb); clear HB; have HB := n0_; clear n0_; (try clear hb); (try clear hb2); (try clear hk); (try clear hi)))
    go_ret
    exact ⟨by first | rfl | (simp [errW_none, errW_some] <;> rfl) | (simp [*, errW_none, errW_some] <;> rfl), by repeat (first | (with_reducible first | exact HB.out | apply below_alloc | apply pw_below_drewN | apply below_drew1) | exact HB.out)⟩

/-- THE ONE PURE STATEMENT of decanterlaw05_RefPoints: yours. -/
def decanterlaw05_RefPoints.Pure : Prop := ∀ (a0 : Int), (Lit.int .i64 a0).wf = true → ∃ k, decanterlaw05_RefPoints.f k a0 = some true
theorem decanterlaw05_RefPoints.walk (P : decanterlaw05_RefPoints.Pure) (a0 : Int) (w : World) (hW : Wok w) (w0 : (Lit.int .i64 a0).wf = true) :
    Calls Tryd.prog 10 #[.int .i64 a0] w fun e w' => e = .returned (.bool true) ∧ Below w.heap.size w w' := by
  obtain ⟨k, h⟩ := P a0 w0
  refine (decanterlaw05_RefPoints.calls k a0 true w hW h).mono ?_
  rintro e w' ⟨rfl, hd⟩
  exact ⟨rfl, hd⟩

/-! ### decanterref04_Table: function 16 -/
/-- The document's names. -/
def decanterref04_Table.tab : List S30 := [⟨⟨#[65, 77, 80]⟩, true, [38]⟩, ⟨⟨#[71, 84]⟩, true, [62]⟩, ⟨⟨#[76, 84]⟩, true, [60]⟩, ⟨⟨#[81, 85, 79, 84]⟩, true, [34]⟩, ⟨⟨#[97, 109, 112]⟩, true, [38]⟩, ⟨⟨#[99, 111, 112, 121]⟩, true, [169]⟩, ⟨⟨#[100, 101, 103]⟩, true, [176]⟩, ⟨⟨#[100, 105, 118, 105, 100, 101]⟩, true, [247]⟩, ⟨⟨#[103, 116]⟩, true, [62]⟩, ⟨⟨#[108, 116]⟩, true, [60]⟩, ⟨⟨#[110, 98, 115, 112]⟩, true, [160]⟩, ⟨⟨#[110, 111, 116]⟩, true, [172]⟩, ⟨⟨#[112, 97, 114, 97]⟩, true, [182]⟩, ⟨⟨#[113, 117, 111, 116]⟩, true, [34]⟩, ⟨⟨#[114, 101, 103]⟩, true, [174]⟩, ⟨⟨#[115, 101, 99, 116]⟩, true, [167]⟩, ⟨⟨#[116, 105, 109, 101, 115]⟩, true, [215]⟩, ⟨⟨#[121, 101, 110]⟩, true, [165]⟩, ⟨⟨#[78, 101, 119, 76, 105, 110, 101]⟩, false, [10]⟩, ⟨⟨#[84, 97, 98]⟩, false, [9]⟩, ⟨⟨#[97, 99, 69]⟩, false, [8766, 819]⟩, ⟨⟨#[97, 108, 112, 104, 97]⟩, false, [945]⟩, ⟨⟨#[97, 112, 111, 115]⟩, false, [39]⟩, ⟨⟨#[98, 101, 116, 97]⟩, false, [946]⟩, ⟨⟨#[98, 117, 108, 108]⟩, false, [8226]⟩, ⟨⟨#[99, 111, 108, 111, 110]⟩, false, [58]⟩, ⟨⟨#[101, 117, 114, 111]⟩, false, [8364]⟩, ⟨⟨#[103, 101]⟩, false, [8805]⟩, ⟨⟨#[104, 101, 108, 108, 105, 112]⟩, false, [8230]⟩, ⟨⟨#[105, 110, 102, 105, 110]⟩, false, [8734]⟩, ⟨⟨#[108, 100, 113, 117, 111]⟩, false, [8220]⟩, ⟨⟨#[108, 101]⟩, false, [8804]⟩, ⟨⟨#[108, 112, 97, 114]⟩, false, [40]⟩, ⟨⟨#[108, 115, 113, 117, 111]⟩, false, [8216]⟩, ⟨⟨#[109, 100, 97, 115, 104]⟩, false, [8212]⟩, ⟨⟨#[110, 100, 97, 115, 104]⟩, false, [8211]⟩, ⟨⟨#[110, 111, 116, 105, 110]⟩, false, [8713]⟩, ⟨⟨#[110, 118, 108, 116]⟩, false, [60, 8402]⟩, ⟨⟨#[114, 100, 113, 117, 111]⟩, false, [8221]⟩, ⟨⟨#[114, 112, 97, 114]⟩, false, [41]⟩, ⟨⟨#[114, 115, 113, 117, 111]⟩, false, [8217]⟩, ⟨⟨#[115, 111, 108]⟩, false, [47]⟩, ⟨⟨#[116, 114, 97, 100, 101]⟩, false, [8482]⟩]
def decanterref04_Table.chars : List (List Int) := decanterref04_Table.tab.map (·.f2)
def decanterref04_Table.f : Option (List S30) := some decanterref04_Table.tab
def decanterref04_Table.allocs : World → List (List Int) → World
  | w, [] => w
  | w, c :: r => decanterref04_Table.allocs (w.alloc (.cells (c.map (Value.int .i64)).toArray 3)) r
theorem decanterref04_Table.allocs_below : ∀ (l : List (List Int)) (w : World), Below w.heap.size w (decanterref04_Table.allocs w l)
  | [], w => Below.refl _ _
  | c :: r, w => by
    have h1 : Below w.heap.size w (w.alloc (.cells (c.map (Value.int .i64)).toArray 3)) := (Below.refl _ _).alloc (Nat.le_refl _) _
    exact h1.trans ((decanterref04_Table.allocs_below r _).mono h1.size)
theorem decanterref04_Table.alloc_size (w : World) (o : Obj) : (w.alloc o).heap.size = w.heap.size + 1 := by
  show (w.heap.push o).size = _
  rw [Array.size_push]
theorem decanterref04_Table.allocs_size : ∀ (l : List (List Int)) (w : World), (decanterref04_Table.allocs w l).heap.size = w.heap.size + l.length
  | [], w => rfl
  | c :: r, w => by
    show (decanterref04_Table.allocs _ r).heap.size = _
    rw [decanterref04_Table.allocs_size r, decanterref04_Table.alloc_size, List.length_cons]
    omega
theorem decanterref04_Table.one (w : World) (base : Nat) (hb : base ≤ w.heap.size) (c : List Int) (hc : c.length ≤ 9) : Kd.R (Kd.int .i64) 3 (w.alloc (.cells (c.map (Value.int .i64)).toArray 3)) base (fun k => k = w.heap.size) (.slice (some ⟨w.heap.size, 0, none⟩) c.length c.length) c := by
  refine ⟨fun k hk => by simpa [Value.ownBlock] using hk.symm, ?_⟩
  refine OwnRow.lit w base ?_ hb (by omega)
  refine ⟨by rw [List.length_map]; show c.length = c.length * 1; omega, fun j p hp => ?_⟩
  have hj := (List.getElem?_eq_some_iff.1 hp).1
  show _ = _
  rw [← List.map_drop, ← List.map_take, show j * (Kd.int .i64).sz = j from Nat.mul_one j]
  have : (c.drop j).take (Kd.int .i64).sz = [p] := by
    show (c.drop j).take 1 = [p]
    rw [List.drop_eq_getElem_cons hj, List.take_succ_cons, List.take_zero]
    rw [List.getElem?_eq_getElem hj] at hp
    rw [Option.some.inj hp]
  rw [this]
  rfl
theorem decanterref04_Table.all : ∀ (l : List (List Int)) (w : World) (base : Nat) (_ : base ≤ w.heap.size) (_ : ∀ c ∈ l, c.length ≤ 9) (j : Nat) (c : List Int) (_ : l[j]? = some c),
    Kd.R (Kd.int .i64) 3 (decanterref04_Table.allocs w l) base (fun k => k = w.heap.size + j) (.slice (some ⟨w.heap.size + j, 0, none⟩) c.length c.length) c
  | [], _, _, _, _, _, _, h => by simp at h
  | c :: r, w, base, hb, hc, 0, x, h => by
    obtain rfl : c = x := by simpa using h
    exact Kd.R_below (decanterref04_Table.one w base hb c (hc c (List.mem_cons_self ..))) (decanterref04_Table.allocs_below r _)
  | c :: r, w, base, hb, hc, j + 1, x, h => by
    have ih := decanterref04_Table.all r (w.alloc (.cells (c.map (Value.int .i64)).toArray 3)) base (by rw [decanterref04_Table.alloc_size]; omega) (fun y hy => hc y (List.mem_cons_of_mem _ hy)) j x (by simpa using h)
    rw [decanterref04_Table.alloc_size, show w.heap.size + 1 + j = w.heap.size + (j + 1) by omega] at ih
    exact ih
def decanterref04_Table.cells (b : Nat) : Nat → List S30 → List Value
  | _, [] => []
  | j, x :: r => .string x.f0 :: .bool x.f1 :: .slice (some ⟨b + j, 0, none⟩) x.f2.length x.f2.length :: decanterref04_Table.cells b (j + 1) r
theorem decanterref04_Table.cells_at (b : Nat) : ∀ (l : List S30) (j : Nat), (decanterref04_Table.cells b j l).length = l.length * 3 ∧ ∀ i x, l[i]? = some x → ((decanterref04_Table.cells b j l).drop (i * 3)).take 3 = [.string x.f0, .bool x.f1, .slice (some ⟨b + (j + i), 0, none⟩) x.f2.length x.f2.length]
  | [], _ => ⟨rfl, fun _ _ h => by simp at h⟩
  | x :: r, j => by
    have ih := decanterref04_Table.cells_at b r (j + 1)
    refine ⟨by show (_ :: _ :: _ :: decanterref04_Table.cells b (j + 1) r).length = _; rw [List.length_cons, List.length_cons, List.length_cons, ih.1, List.length_cons]; omega, fun i p hp => ?_⟩
    cases i with
    | zero =>
      obtain rfl : x = p := by simpa using hp
      rfl
    | succ i =>
      have := ih.2 i p (by simpa using hp)
      rw [show (i + 1) * 3 = i * 3 + 3 by omega, show j + (i + 1) = j + 1 + i by omega]
      exact this
theorem decanterref04_Table.row (w : World) : Kd.S k30 30 ((decanterref04_Table.allocs w decanterref04_Table.chars).alloc (.cells (decanterref04_Table.cells w.heap.size 0 decanterref04_Table.tab).toArray 30)) w.heap.size (fun _ => True) (.slice (some ⟨w.heap.size + 43, 0, none⟩) 43 43) decanterref04_Table.tab := by
  have hsz : (decanterref04_Table.allocs w decanterref04_Table.chars).heap.size = w.heap.size + 43 := decanterref04_Table.allocs_size _ _
  have hl : decanterref04_Table.tab.length = 43 := rfl
  have hlz : decanterref04_Table.tab.zipIdx.length = 43 := by rw [List.length_zipIdx, hl]
  refine ⟨fun k => k - w.heap.size, fun _ _ => trivial, ?_⟩
  have hat := decanterref04_Table.cells_at w.heap.size decanterref04_Table.tab 0
  have hfin : OwnRow ((Kd.tag (fun k => k - w.heap.size) k30).M ((decanterref04_Table.allocs w decanterref04_Table.chars).alloc (.cells (decanterref04_Table.cells w.heap.size 0 decanterref04_Table.tab).toArray 30)) w.heap.size (fun k => True ∧ some k ≠ (Value.slice (some ⟨(decanterref04_Table.allocs w decanterref04_Table.chars).heap.size, 0, none⟩) decanterref04_Table.tab.zipIdx.length decanterref04_Table.tab.zipIdx.length).ownBlock)) 30 3
      ((decanterref04_Table.allocs w decanterref04_Table.chars).alloc (.cells (decanterref04_Table.cells w.heap.size 0 decanterref04_Table.tab).toArray 30)) w.heap.size (.slice (some ⟨(decanterref04_Table.allocs w decanterref04_Table.chars).heap.size, 0, none⟩) decanterref04_Table.tab.zipIdx.length decanterref04_Table.tab.zipIdx.length) decanterref04_Table.tab.zipIdx := by
    refine OwnRow.lit _ _ ⟨by rw [hat.1, hlz, hl], fun i p hp => ?_⟩ (by rw [hsz]; omega) (by rw [hlz]; omega)
    obtain ⟨x, hx, rfl⟩ : ∃ x, decanterref04_Table.tab[i]? = some x ∧ p = (x, i) := by
      rw [List.getElem?_zipIdx] at hp
      obtain ⟨x, hx, rfl⟩ := Option.map_eq_some_iff.1 hp
      exact ⟨x, hx, by rw [Nat.zero_add]⟩
    rw [hat.2 i x hx, Nat.zero_add]
    have hi : i < 43 := by rw [← hl]; exact (List.getElem?_eq_some_iff.1 hx).1
    have h1 := decanterref04_Table.all decanterref04_Table.chars w w.heap.size (Nat.le_refl _) (by decide) i x.f2 (by unfold decanterref04_Table.chars; rw [List.getElem?_map, hx]; rfl)
    refine k30_mkM _ _ _ x ?_
    refine Kd.R_mono (Kd.R_alloc h1 _) fun k hk => ⟨⟨trivial, ?_⟩, ?_⟩
    · rw [hk]
      intro h
      have : w.heap.size + i = (decanterref04_Table.allocs w decanterref04_Table.chars).heap.size := by simpa [Value.ownBlock] using h
      omega
    · show k - w.heap.size = i
      omega
  rw [hsz, hlz] at hfin
  exact hfin
set_option maxHeartbeats 8000000 in
set_option maxRecDepth 1000000 in
theorem decanterref04_Table.calls (r : List S30) (w : World) (_hW : Wok w) (h : decanterref04_Table.f = some r) :
    Calls Tryd.prog 16 #[] w fun e w' => ∃ v0_ : Value, e = .returned v0_ ∧ Kd.S k30 30 w' w.heap.size (fun _ => True) v0_ r ∧ Below w.heap.size w w' := by
  obtain rfl := Option.some.inj h
  have HR := Lib.hid (decanterref04_Table.row w)
  have HB := Lib.hid ((decanterref04_Table.allocs_below decanterref04_Table.chars w).alloc ((decanterref04_Table.allocs_below decanterref04_Table.chars w).size) (.cells (decanterref04_Table.cells w.heap.size 0 decanterref04_Table.tab).toArray 30))
  clear h _hW
  go_enter Tryd.func16, Tryd.ntmps16
  go_wp2
  go_ret
  exact ⟨_, rfl, HR.out, HB.out⟩

/-! ### decanterref04_Begins: function 28 -/
def decanterref04_Begins.f (a0 : ByteArray) (a1 : ByteArray) : Option (Bool) := if (a0.size : Int) ≥ (a1.size : Int) then (if 0 ≤ (a1.size : Int) then (if (a1.size : Int) ≤ (a0.size : Int) then (some ((a0.extract 0 ((a1.size : Int) : Int).toNat).toList == a1.toList)) else (none)) else (none)) else (some false)
set_option maxHeartbeats 8000000 in
set_option maxRecDepth 100000 in
theorem decanterref04_Begins.calls (a0 : ByteArray) (a1 : ByteArray) (r : Bool) (w : World) (h : decanterref04_Begins.f a0 a1 = some r) :
    Calls Tryd.prog 28 #[.string a0, .string a1] w fun e w' => e = .returned (.bool r) ∧ Drawn0 w w' := by
  have H : (if (a0.size : Int) ≥ (a1.size : Int) then (if 0 ≤ (a1.size : Int) then (if (a1.size : Int) ≤ (a0.size : Int) then (some ((a0.extract 0 ((a1.size : Int) : Int).toNat).toList == a1.toList)) else (none)) else (none)) else (some false)) = some r := h
  clear h
  by_cases c3 : (a0.size : Int) ≥ (a1.size : Int)
  · rw [if_pos c3] at H
    have c3b0 : decide ((a1.size : Int) ≤ (a0.size : Int)) = true := decide_eq_true c3
    have c3b1 : decide (a1.size ≤ a0.size) = true := decide_eq_true (Int.ofNat_le.mp c3)
    clear c3
    by_cases c4 : 0 ≤ (a1.size : Int)
    · rw [if_pos c4] at H
      have c4b0 := eq_true c4
      have c4b1 : decide (0 ≤ (a1.size : Int)) = true := decide_eq_true c4
      clear c4
      by_cases c5 : (a1.size : Int) ≤ (a0.size : Int)
      · rw [if_pos c5] at H
        have c5b0 := eq_true c5
        have c5b1 : decide ((a1.size : Int) ≤ (a0.size : Int)) = true := decide_eq_true c5
        clear c5
        obtain rfl := Option.some.inj H
        go_enter Tryd.func28, Tryd.ntmps28
        go_wp2
        go_ret
        exact ⟨by first | rfl | (simp; done) | (simp [*]; done), by repeat (first | exact Drawn0.refl _ | apply Drawn0.step)⟩
      · rw [if_neg c5] at H
        exact absurd H (by simp)
    · rw [if_neg c4] at H
      exact absurd H (by simp)
  · rw [if_neg c3] at H
    have c3b0 : decide ((a1.size : Int) ≤ (a0.size : Int)) = false := decide_eq_false c3
    have c3b1 : decide (a1.size ≤ a0.size) = false := decide_eq_false (fun h => c3 (Int.ofNat_le.mpr h))
    clear c3
    obtain rfl := Option.some.inj H
    go_enter Tryd.func28, Tryd.ntmps28
    go_wp2
    go_ret
    exact ⟨by first | rfl | (simp; done) | (simp [*]; done), by repeat (first | exact Drawn0.refl _ | apply Drawn0.step)⟩

/-! ### decanterref02_UTF: function 37 -/
def decanterref02_UTF.f (a0 : Int) : Option (List Int) := if a0 < 128 then (some (([(a0) % 256] : List Int))) else (if a0 < 2048 then (some (([(wrap64 (192 + (wrap64 (Int.tdiv a0 64)))) % 256, (wrap64 (128 + (Int.tmod a0 64))) % 256] : List Int))) else (if a0 < 65536 then (some (([(wrap64 (224 + (wrap64 (Int.tdiv a0 4096)))) % 256, (wrap64 (128 + (Int.tmod (wrap64 (Int.tdiv a0 64)) 64))) % 256, (wrap64 (128 + (Int.tmod a0 64))) % 256] : List Int))) else (some (([(wrap64 (240 + (wrap64 (Int.tdiv a0 262144)))) % 256, (wrap64 (128 + (Int.tmod (wrap64 (Int.tdiv a0 4096)) 64))) % 256, (wrap64 (128 + (Int.tmod (wrap64 (Int.tdiv a0 64)) 64))) % 256, (wrap64 (128 + (Int.tmod a0 64))) % 256] : List Int)))))
set_option maxHeartbeats 8000000 in
set_option maxRecDepth 100000 in
theorem decanterref02_UTF.calls (a0 : Int) (r : List Int) (w : World) (h : decanterref02_UTF.f a0 = some r) :
    Calls Tryd.prog 37 #[.int .i64 a0] w fun e w' => ∃ v0_ : Value, e = .returned (v0_) ∧ Kd.R (Kd.int .u8) 5 w' w.heap.size (fun _ => True) v0_ r ∧ Below w.heap.size w w' := by
  have HB := Aside0.mk (Below.refl w.heap.size w)
  have H : (if a0 < 128 then (some (([(a0) % 256] : List Int))) else (if a0 < 2048 then (some (([(wrap64 (192 + (wrap64 (Int.tdiv a0 64)))) % 256, (wrap64 (128 + (Int.tmod a0 64))) % 256] : List Int))) else (if a0 < 65536 then (some (([(wrap64 (224 + (wrap64 (Int.tdiv a0 4096)))) % 256, (wrap64 (128 + (Int.tmod (wrap64 (Int.tdiv a0 64)) 64))) % 256, (wrap64 (128 + (Int.tmod a0 64))) % 256] : List Int))) else (some (([(wrap64 (240 + (wrap64 (Int.tdiv a0 262144)))) % 256, (wrap64 (128 + (Int.tmod (wrap64 (Int.tdiv a0 4096)) 64))) % 256, (wrap64 (128 + (Int.tmod (wrap64 (Int.tdiv a0 64)) 64))) % 256, (wrap64 (128 + (Int.tmod a0 64))) % 256] : List Int)))))) = some r := h
  clear h
  by_cases c2 : a0 < 128
  · rw [if_pos c2] at H
    have c2b0 : decide (a0 < 128) = true := decide_eq_true c2
    clear c2
    obtain ⟨y151, hy151⟩ : ∃ y_ : List Int, y_ = (([(a0) % 256] : List Int)) := ⟨_, rfl⟩
    replace H : (some y151) = some r := by first | (rw [hy151]; with_reducible exact H) | (have H2_ := (Option.bind_some _ _).symm.trans H; rw [hy151]; with_reducible exact H2_) | (have H2_ := (Option.bind_some _ _).symm.trans H; with_reducible exact H2_) | with_reducible exact H | (rw [hy151]; exact H) | exact H
    have Ny151 := Aside0.mk hy151
    clear hy151
    obtain rfl := Option.some.inj H
    go_enter Tryd.func37, Tryd.ntmps37
    go_wp2_with (first | ((with_reducible refine gate_dst (N := 7) rfl ?_); refine Kd.R_lit (Kd.int .u8) _ 5 ?hg (N := 7) ?hd (xs := ([(a0) % 256] : List Int)) (inner := [.int .u8 ((a0) % 256)]) (ok := fun _ => True) (okp := fun _ => True) ?hr ?hp (fun _ hk => hk) trivial (Below.refl _ _) (Nat.le_refl _) (by simp) ?_; (case hd => rfl); (case hg => rfl); (case hr => first | (go_simp; done) | (go_simp; rfl)); (case hp => exact (Reps.one (show Kd.M (Kd.int .u8) _ _ _ ((a0) % 256) [.int .u8 ((a0) % 256)] from rfl) (Reps.none _ _))); intro v152 w3 ho4 hb hg_ hnew_; clear hg_ hnew_; (first | rw [← Ny151.out] at ho4 | (simp only [Int.reduceToNat] at ho4; rw [← Ny151.out] at ho4)); have n0_ := Aside0.mk (Kd.R_lower ho4 (below_size (by repeat (first | (with_reducible first | exact HB.out | apply below_alloc | apply pw_below_drewN | apply below_drew1) | exact HB.out)))); have n1_ := Aside0.mk (below_step (by repeat (first | (with_reducible first | exact HB.out | apply below_alloc | apply pw_below_drewN | apply below_drew1) | exact HB.out)) hb); clear HB; have HO153 := n0_; have HB := n1_; clear n0_ n1_; clear hb ho4))
    go_ret
    exact ⟨_, by first | rfl | (simp [errW_none, errW_some] <;> rfl) | (simp [*, errW_none, errW_some] <;> rfl), by (with_reducible repeat (first | apply Kd.R_alloc | apply Kd.R_drewN | apply Kd.R_drew)); exact HO153.out, by repeat (first | (with_reducible first | exact HB.out | apply below_alloc | apply pw_below_drewN | apply below_drew1) | exact HB.out)⟩
  · rw [if_neg c2] at H
    have c2b0 : decide (a0 < 128) = false := decide_eq_false c2
    clear c2
    by_cases c5 : a0 < 2048
    · rw [if_pos c5] at H
      have c5b0 : decide (a0 < 2048) = true := decide_eq_true c5
      clear c5
      obtain ⟨y154, hy154⟩ : ∃ y_ : List Int, y_ = (([(wrap64 (192 + (wrap64 (Int.tdiv a0 64)))) % 256, (wrap64 (128 + (Int.tmod a0 64))) % 256] : List Int)) := ⟨_, rfl⟩
      replace H : (some y154) = some r := by first | (rw [hy154]; with_reducible exact H) | (have H2_ := (Option.bind_some _ _).symm.trans H; rw [hy154]; with_reducible exact H2_) | (have H2_ := (Option.bind_some _ _).symm.trans H; with_reducible exact H2_) | with_reducible exact H | (rw [hy154]; exact H) | exact H
      have Ny154 := Aside0.mk hy154
      clear hy154
      obtain rfl := Option.some.inj H
      go_enter Tryd.func37, Tryd.ntmps37
      go_wp2_with (first | ((with_reducible refine gate_dst (N := 18) rfl ?_); refine Kd.R_lit (Kd.int .u8) _ 5 ?hg (N := 18) ?hd (xs := ([(wrap64 (192 + (wrap64 (Int.tdiv a0 64)))) % 256, (wrap64 (128 + (Int.tmod a0 64))) % 256] : List Int)) (inner := [.int .u8 ((wrap64 (192 + (wrap64 (Int.tdiv a0 64)))) % 256), .int .u8 ((wrap64 (128 + (Int.tmod a0 64))) % 256)]) (ok := fun _ => True) (okp := fun _ => True) ?hr ?hp (fun _ hk => hk) trivial (Below.refl _ _) (Nat.le_refl _) (by simp) ?_; (case hd => rfl); (case hg => rfl); (case hr => first | (go_simp; done) | (go_simp; rfl)); (case hp => exact (Reps.one (show Kd.M (Kd.int .u8) _ _ _ ((wrap64 (192 + (wrap64 (Int.tdiv a0 64)))) % 256) [.int .u8 ((wrap64 (192 + (wrap64 (Int.tdiv a0 64)))) % 256)] from rfl) (Reps.one (show Kd.M (Kd.int .u8) _ _ _ ((wrap64 (128 + (Int.tmod a0 64))) % 256) [.int .u8 ((wrap64 (128 + (Int.tmod a0 64))) % 256)] from rfl) (Reps.none _ _)))); intro v155 w6 ho7 hb hg_ hnew_; clear hg_ hnew_; (first | rw [← Ny154.out] at ho7 | (simp only [Int.reduceToNat] at ho7; rw [← Ny154.out] at ho7)); have n0_ := Aside0.mk (Kd.R_lower ho7 (below_size (by repeat (first | (with_reducible first | exact HB.out | apply below_alloc | apply pw_below_drewN | apply below_drew1) | exact HB.out)))); have n1_ := Aside0.mk (below_step (by repeat (first | (with_reducible first | exact HB.out | apply below_alloc | apply pw_below_drewN | apply below_drew1) | exact HB.out)) hb); clear HB; have HO156 := n0_; have HB := n1_; clear n0_ n1_; clear hb ho7))
      go_ret
      exact ⟨_, by first | rfl | (simp [errW_none, errW_some] <;> rfl) | (simp [*, errW_none, errW_some] <;> rfl), by (with_reducible repeat (first | apply Kd.R_alloc | apply Kd.R_drewN | apply Kd.R_drew)); exact HO156.out, by repeat (first | (with_reducible first | exact HB.out | apply below_alloc | apply pw_below_drewN | apply below_drew1) | exact HB.out)⟩
    · rw [if_neg c5] at H
      have c5b0 : decide (a0 < 2048) = false := decide_eq_false c5
      clear c5
      by_cases c8 : a0 < 65536
      · rw [if_pos c8] at H
        have c8b0 : decide (a0 < 65536) = true := decide_eq_true c8
        clear c8
        obtain ⟨y157, hy157⟩ : ∃ y_ : List Int, y_ = (([(wrap64 (224 + (wrap64 (Int.tdiv a0 4096)))) % 256, (wrap64 (128 + (Int.tmod (wrap64 (Int.tdiv a0 64)) 64))) % 256, (wrap64 (128 + (Int.tmod a0 64))) % 256] : List Int)) := ⟨_, rfl⟩
        replace H : (some y157) = some r := by first | (rw [hy157]; with_reducible exact H) | (have H2_ := (Option.bind_some _ _).symm.trans H; rw [hy157]; with_reducible exact H2_) | (have H2_ := (Option.bind_some _ _).symm.trans H; with_reducible exact H2_) | with_reducible exact H | (rw [hy157]; exact H) | exact H
        have Ny157 := Aside0.mk hy157
        clear hy157
        obtain rfl := Option.some.inj H
        go_enter Tryd.func37, Tryd.ntmps37
        go_wp2_with (first | ((with_reducible refine gate_dst (N := 34) rfl ?_); refine Kd.R_lit (Kd.int .u8) _ 5 ?hg (N := 34) ?hd (xs := ([(wrap64 (224 + (wrap64 (Int.tdiv a0 4096)))) % 256, (wrap64 (128 + (Int.tmod (wrap64 (Int.tdiv a0 64)) 64))) % 256, (wrap64 (128 + (Int.tmod a0 64))) % 256] : List Int)) (inner := [.int .u8 ((wrap64 (224 + (wrap64 (Int.tdiv a0 4096)))) % 256), .int .u8 ((wrap64 (128 + (Int.tmod (wrap64 (Int.tdiv a0 64)) 64))) % 256), .int .u8 ((wrap64 (128 + (Int.tmod a0 64))) % 256)]) (ok := fun _ => True) (okp := fun _ => True) ?hr ?hp (fun _ hk => hk) trivial (Below.refl _ _) (Nat.le_refl _) (by simp) ?_; (case hd => rfl); (case hg => rfl); (case hr => first | (go_simp; done) | (go_simp; rfl)); (case hp => exact (Reps.one (show Kd.M (Kd.int .u8) _ _ _ ((wrap64 (224 + (wrap64 (Int.tdiv a0 4096)))) % 256) [.int .u8 ((wrap64 (224 + (wrap64 (Int.tdiv a0 4096)))) % 256)] from rfl) (Reps.one (show Kd.M (Kd.int .u8) _ _ _ ((wrap64 (128 + (Int.tmod (wrap64 (Int.tdiv a0 64)) 64))) % 256) [.int .u8 ((wrap64 (128 + (Int.tmod (wrap64 (Int.tdiv a0 64)) 64))) % 256)] from rfl) (Reps.one (show Kd.M (Kd.int .u8) _ _ _ ((wrap64 (128 + (Int.tmod a0 64))) % 256) [.int .u8 ((wrap64 (128 + (Int.tmod a0 64))) % 256)] from rfl) (Reps.none _ _))))); intro v158 w9 ho10 hb hg_ hnew_; clear hg_ hnew_; (first | rw [← Ny157.out] at ho10 | (simp only [Int.reduceToNat] at ho10; rw [← Ny157.out] at ho10)); have n0_ := Aside0.mk (Kd.R_lower ho10 (below_size (by repeat (first | (with_reducible first | exact HB.out | apply below_alloc | apply pw_below_drewN | apply below_drew1) | exact HB.out)))); have n1_ := Aside0.mk (below_step (by repeat (first | (with_reducible first | exact HB.out | apply below_alloc | apply pw_below_drewN | apply below_drew1) | exact HB.out)) hb); clear HB; have HO159 := n0_; have HB := n1_; clear n0_ n1_; clear hb ho10))
        go_ret
        exact ⟨_, by first | rfl | (simp [errW_none, errW_some] <;> rfl) | (simp [*, errW_none, errW_some] <;> rfl), by (with_reducible repeat (first | apply Kd.R_alloc | apply Kd.R_drewN | apply Kd.R_drew)); exact HO159.out, by repeat (first | (with_reducible first | exact HB.out | apply below_alloc | apply pw_below_drewN | apply below_drew1) | exact HB.out)⟩
      · rw [if_neg c8] at H
        have c8b0 : decide (a0 < 65536) = false := decide_eq_false c8
        clear c8
        obtain ⟨y160, hy160⟩ : ∃ y_ : List Int, y_ = (([(wrap64 (240 + (wrap64 (Int.tdiv a0 262144)))) % 256, (wrap64 (128 + (Int.tmod (wrap64 (Int.tdiv a0 4096)) 64))) % 256, (wrap64 (128 + (Int.tmod (wrap64 (Int.tdiv a0 64)) 64))) % 256, (wrap64 (128 + (Int.tmod a0 64))) % 256] : List Int)) := ⟨_, rfl⟩
        replace H : (some y160) = some r := by first | (rw [hy160]; with_reducible exact H) | (have H2_ := (Option.bind_some _ _).symm.trans H; rw [hy160]; with_reducible exact H2_) | (have H2_ := (Option.bind_some _ _).symm.trans H; with_reducible exact H2_) | with_reducible exact H | (rw [hy160]; exact H) | exact H
        have Ny160 := Aside0.mk hy160
        clear hy160
        obtain rfl := Option.some.inj H
        go_enter Tryd.func37, Tryd.ntmps37
        go_wp2_with (first | ((with_reducible refine gate_dst (N := 53) rfl ?_); refine Kd.R_lit (Kd.int .u8) _ 5 ?hg (N := 53) ?hd (xs := ([(wrap64 (240 + (wrap64 (Int.tdiv a0 262144)))) % 256, (wrap64 (128 + (Int.tmod (wrap64 (Int.tdiv a0 4096)) 64))) % 256, (wrap64 (128 + (Int.tmod (wrap64 (Int.tdiv a0 64)) 64))) % 256, (wrap64 (128 + (Int.tmod a0 64))) % 256] : List Int)) (inner := [.int .u8 ((wrap64 (240 + (wrap64 (Int.tdiv a0 262144)))) % 256), .int .u8 ((wrap64 (128 + (Int.tmod (wrap64 (Int.tdiv a0 4096)) 64))) % 256), .int .u8 ((wrap64 (128 + (Int.tmod (wrap64 (Int.tdiv a0 64)) 64))) % 256), .int .u8 ((wrap64 (128 + (Int.tmod a0 64))) % 256)]) (ok := fun _ => True) (okp := fun _ => True) ?hr ?hp (fun _ hk => hk) trivial (Below.refl _ _) (Nat.le_refl _) (by simp) ?_; (case hd => rfl); (case hg => rfl); (case hr => first | (go_simp; done) | (go_simp; rfl)); (case hp => exact (Reps.one (show Kd.M (Kd.int .u8) _ _ _ ((wrap64 (240 + (wrap64 (Int.tdiv a0 262144)))) % 256) [.int .u8 ((wrap64 (240 + (wrap64 (Int.tdiv a0 262144)))) % 256)] from rfl) (Reps.one (show Kd.M (Kd.int .u8) _ _ _ ((wrap64 (128 + (Int.tmod (wrap64 (Int.tdiv a0 4096)) 64))) % 256) [.int .u8 ((wrap64 (128 + (Int.tmod (wrap64 (Int.tdiv a0 4096)) 64))) % 256)] from rfl) (Reps.one (show Kd.M (Kd.int .u8) _ _ _ ((wrap64 (128 + (Int.tmod (wrap64 (Int.tdiv a0 64)) 64))) % 256) [.int .u8 ((wrap64 (128 + (Int.tmod (wrap64 (Int.tdiv a0 64)) 64))) % 256)] from rfl) (Reps.one (show Kd.M (Kd.int .u8) _ _ _ ((wrap64 (128 + (Int.tmod a0 64))) % 256) [.int .u8 ((wrap64 (128 + (Int.tmod a0 64))) % 256)] from rfl) (Reps.none _ _)))))); intro v161 w11 ho12 hb hg_ hnew_; clear hg_ hnew_; (first | rw [← Ny160.out] at ho12 | (simp only [Int.reduceToNat] at ho12; rw [← Ny160.out] at ho12)); have n0_ := Aside0.mk (Kd.R_lower ho12 (below_size (by repeat (first | (with_reducible first | exact HB.out | apply below_alloc | apply pw_below_drewN | apply below_drew1) | exact HB.out)))); have n1_ := Aside0.mk (below_step (by repeat (first | (with_reducible first | exact HB.out | apply below_alloc | apply pw_below_drewN | apply below_drew1) | exact HB.out)) hb); clear HB; have HO162 := n0_; have HB := n1_; clear n0_ n1_; clear hb ho12))
        go_ret
        exact ⟨_, by first | rfl | (simp [errW_none, errW_some] <;> rfl) | (simp [*, errW_none, errW_some] <;> rfl), by (with_reducible repeat (first | apply Kd.R_alloc | apply Kd.R_drewN | apply Kd.R_drew)); exact HO162.out, by repeat (first | (with_reducible first | exact HB.out | apply below_alloc | apply pw_below_drewN | apply below_drew1) | exact HB.out)⟩

/-! ### decanterref04_Text: function 29 -/
def decanterref04_Text.l0 : Nat → List Int → List Int → Int → Option (ByteArray)
  | 0, _, _, _ => none
  | k + 1, x0, x3, x4 => if x4 < (x0.length : Int) then (if 0 ≤ x4 then ((decanterref02_UTF.f (rd x0 x4)).bind fun t167 => (if x3.length + t167.length < 140737488355328 then (decanterref04_Text.l0 k x0 (x3 ++ t167) (wrap64 (x4 + 1))) else (none))) else (none)) else (some (strOfNums x3))
def decanterref04_Text.f (k : Nat) (l0 : List Int) : Option (ByteArray) := decanterref04_Text.l0 k l0 (([] : List Int)) 0
theorem decanterref04_Text.mono_l : ∀ k, (∀ y0 y1 y2, LeO (decanterref04_Text.l0 k y0 y1 y2) (decanterref04_Text.l0 (k + 1) y0 y1 y2))
  | 0 => fun _ _ _ r h => by simp [decanterref04_Text.l0] at h
  | k + 1 => by
    have ih0 := decanterref04_Text.mono_l k
    · intro y0 y1 y2
      unfold decanterref04_Text.l0
      repeat' first
      | (with_reducible exact ih0 _ _ _)
      | (with_reducible exact LeO.refl _)
      | (with_reducible exact LeO.none _)
      | (with_reducible refine LeO.ite ?_ ?_)
      | (with_reducible refine LeO.bind ?_ (fun _ => ?_))
      | exact ih0 _ _ _
      | exact LeO.none _
      | refine LeO.ite ?_ ?_
      | refine LeO.bind ?_ (fun _ => ?_)
theorem decanterref04_Text.mono : ∀ a0 k, LeO (decanterref04_Text.f k a0) (decanterref04_Text.f (k + 1) a0) := by
  intro a0 k
  have ih0 := decanterref04_Text.mono_l k
  unfold decanterref04_Text.f
  repeat' first
      | (with_reducible exact ih0 _ _ _)
      | (with_reducible exact LeO.refl _)
      | (with_reducible exact LeO.none _)
      | (with_reducible refine LeO.ite ?_ ?_)
      | (with_reducible refine LeO.bind ?_ (fun _ => ?_))
      | exact ih0 _ _ _
      | exact LeO.none _
      | refine LeO.ite ?_ ?_
      | refine LeO.bind ?_ (fun _ => ?_)
set_option maxHeartbeats 8000000 in
set_option maxRecDepth 100000 in
theorem decanterref04_Text.calls (k : Nat) (A0 : Option Addr) (c0 : Nat) (l0 : List Int) (r : ByteArray) (w : World) (hr0 : Kd.C (Kd.int .i64) w A0 l0.length l0) (hc0 : l0.length ≤ c0) (h : decanterref04_Text.f k l0 = some r) :
    Calls Tryd.prog 29 #[.slice A0 l0.length c0] w fun e w' => e = .returned (.string r) ∧ Below w.heap.size w w' := by
  have HR0 := Aside0.mk hr0
  have HC0 := Aside0.mk hc0
  clear hr0 hc0
  have HB := Aside0.mk (Below.refl w.heap.size w)
  have H : (decanterref04_Text.l0 k l0 (([] : List Int)) 0) = some r := h
  clear h
  obtain ⟨y163, hy163⟩ : ∃ y_ : List Int, y_ = (([] : List Int)) := ⟨_, rfl⟩
  replace H : (decanterref04_Text.l0 k l0 y163 0) = some r := by first | (rw [hy163]; with_reducible exact H) | (have H2_ := (Option.bind_some _ _).symm.trans H; rw [hy163]; with_reducible exact H2_) | (have H2_ := (Option.bind_some _ _).symm.trans H; with_reducible exact H2_) | with_reducible exact H | (rw [hy163]; exact H) | exact H
  have Ny163 := Aside0.mk hy163
  clear hy163
  have H' := Aside0.mk H
  clear H
  go_enter Tryd.func29, Tryd.ntmps29
  go_wp2_with (first | ((with_reducible refine gate_dst (N := 5) rfl ?_); refine Kd.R_lit (Kd.int .u8) _ 5 ?hg (N := 5) ?hd (xs := ([] : List Int)) (inner := []) (ok := fun _ => True) (okp := fun _ => True) ?hr ?hp (fun _ hk => hk) trivial (Below.refl _ _) (Nat.le_refl _) (by simp) ?_; (case hd => rfl); (case hg => rfl); (case hr => first | (go_simp; done) | (go_simp; rfl)); (case hp => exact (Reps.none _ _)); intro v164 w2 ho3 hb hg_ hnew_; clear hg_ hnew_; (first | rw [← Ny163.out] at ho3 | (simp only [Int.reduceToNat] at ho3; rw [← Ny163.out] at ho3)); have n0_ := Aside0.mk (Kd.R_lower ho3 (below_size (by repeat (first | (with_reducible first | exact HB.out | apply below_alloc | apply pw_below_drewN | apply below_drew1) | exact HB.out)))); have n1_ := Aside0.mk (below_step (by repeat (first | (with_reducible first | exact HB.out | apply below_alloc | apply pw_below_drewN | apply below_drew1) | exact HB.out)) hb); clear HB; have HO165 := n0_; have HB := n1_; clear n0_ n1_; clear hb ho3))
  go_loopg [3, 4] k (fun kq v3 v4 w' => ∃ (x3_1 : List Int) (x4_1 : Int), v4 = .int .i64 x4_1 ∧ Aside0 (decanterref04_Text.l0 kq l0 x3_1 x4_1 = some r) ∧ Aside0 (kq ≤ k) ∧ Aside0 (Kd.R (Kd.int .u8) 5 w' w.heap.size (fun _ => True) v3 x3_1) ∧ Aside0 (Below w.heap.size w w'))
  case atStart => exact ⟨(y163), (0), (by first | rfl | (simp; done) | (simp [*]; done)), H', ⟨Nat.le_refl _⟩, ⟨by (with_reducible repeat (first | apply Kd.R_alloc | apply Kd.R_drewN | apply Kd.R_drew)); exact HO165.out⟩, ⟨by repeat (first | (with_reducible first | exact HB.out | apply below_alloc | apply pw_below_drewN | apply below_drew1) | exact HB.out)⟩⟩
  case round =>
    clear H'
    try clear c2
    try clear p2
    obtain ⟨x3_1, x4_1, rfl, HA, HK1, HO_3, HB⟩ := hrel
    cases gk with
    | zero => exact absurd HA.out (by simp [decanterref04_Text.l0])
    | succ k1 =>
      have H := HA.out
      clear HA
      simp only [decanterref04_Text.l0] at H
      by_cases c4 : x4_1 < (l0.length : Int)
      · rw [if_pos c4] at H
        have c4b0 : decide (x4_1 < (l0.length : Int)) = true := decide_eq_true c4
        clear c4
        by_cases c5 : 0 ≤ x4_1
        · rw [if_pos c5] at H
          have c5b0 : decide (0 ≤ x4_1) = true := decide_eq_true c5
          clear c5
          replace H := Option.bind_eq_some_iff.mp H
          obtain ⟨t167, A60, H⟩ := H
          replace H : (if x3_1.length + t167.length < 140737488355328 then (decanterref04_Text.l0 k1 l0 (x3_1 ++ t167) (wrap64 (x4_1 + 1))) else (none)) = some r := H
          have A6 := Aside0.mk A60
          clear A60
          by_cases c7 : x3_1.length + t167.length < 140737488355328
          · rw [if_pos c7] at H
            have LMc7 := Aside0.mk c7
            clear c7
            obtain ⟨y170, hy170⟩ : ∃ y_ : List Int, y_ = (x3_1 ++ t167) := ⟨_, rfl⟩
            replace H : (decanterref04_Text.l0 k1 l0 y170 (wrap64 (x4_1 + 1))) = some r := by first | (rw [hy170]; with_reducible exact H) | (have H2_ := (Option.bind_some _ _).symm.trans H; rw [hy170]; with_reducible exact H2_) | (have H2_ := (Option.bind_some _ _).symm.trans H; with_reducible exact H2_) | with_reducible exact H | (rw [hy170]; exact H) | exact H
            have Ny170 := Aside0.mk hy170
            clear hy170
            have H' := Aside0.mk H
            clear H
            have p166 : 0 ≤ (x4_1 : Int) := of_decide_eq_true (by first | (with_reducible assumption) | assumption)
            have q166 : x4_1 < (l0.length : Int) := of_decide_eq_true (by first | (with_reducible assumption) | assumption)
            obtain ⟨ad166, e166, hx166_0⟩ := Kd.at_int HR0.out x4_1 p166 q166
            cases e166
            replace hx166_0 := (HB.out.cell (World.block_lt_of_cell? w _ hx166_0)).trans hx166_0
            replace p166 := eq_true p166
            replace q166 := eq_true q166
            go_wp2_with (first | ((with_reducible refine gate_callee (f := 37) rfl ?_); refine goesL_ (some 17) rfl rfl Tryd.func37 (by kernel_rfl) rfl #[.int .i64 (rd l0 x4_1)] rfl (by (try simp only [List.map_toArray, List.map_cons, List.map_nil]); first | done | rfl | (simp only [List.length_drop, List.length_take]; rfl)) ?_; (with_reducible refine (decanterref02_UTF.calls (rd l0 x4_1) t167 _ A6.out).mono ?_); rintro e w8 ⟨v168, rfl, ho0, hb⟩; refine ⟨_, rfl, ?_⟩; have n0_ := Aside0.mk (Kd.R_elder' (by (with_reducible repeat (first | apply Kd.R_alloc | apply Kd.R_drewN | apply Kd.R_drew)); exact HO_3.out) (Kd.R_base ho0) hb); have n1_ := Aside0.mk (Kd.R_lower (Kd.R_new' ho0 (Kd.R_lt (by (with_reducible repeat (first | apply Kd.R_alloc | apply Kd.R_drewN | apply Kd.R_drew)); exact HO_3.out))) (below_size (by repeat (first | (with_reducible first | exact HB.out | apply below_alloc | apply pw_below_drewN | apply below_drew1) | exact HB.out)))); have n2_ := Aside0.mk (below_step (by repeat (first | (with_reducible first | exact HB.out | apply below_alloc | apply pw_below_drewN | apply below_drew1) | exact HB.out)) hb); clear HO_3; clear HB; have HO_3 := n0_; have HO169 := n1_; have HB := n2_; clear n0_ n1_ n2_; (try clear hb); (try clear hb2); (try clear hk); (try clear hi); (try clear ho0); obtain ⟨Ao10, co10, eo10⟩ := Kd.R_slice HO169.out; subst eo10) | ((with_reducible refine gate_builtin (b := .append) (xs := #[.tmp 12, .tmp 17]) rfl ?_); at_builtin; refine Kd.R_append_rows (Kd.int .u8) (w0 := w) w.heap.size rfl (.tmp 12) (.tmp 17) 37 5 (.int .u8 0) 1 rfl Tryd.underlying37 info5 rfl (by decide) (by omega) u3 x3_1 t167 _ _ _ (fun k_ => some k_ ≠ (.slice Ao10 t167.length co10 : Value).ownBlock) (fun _ => False) rfl rfl ?aO ?aR (fun _ _ h => h) (fun _ h => h.elim) ?aF ?aB ?aS ?aL ?_; (case aR => repeat (first | exact (Kd.R_reads' HO169.out).2.2 | (with_reducible refine Kd.C_alloc ?_ _) | (with_reducible refine Kd.C_drewN ?_ _) | (with_reducible refine Kd.C_drew ?_))); (case aB => exact (by repeat (first | (with_reducible first | exact HB.out | apply below_alloc | apply pw_below_drewN | apply below_drew1) | exact HB.out))); (case aF => exact (fun k_ hk => Kd.fresh' (Kd.R_lt (by (with_reducible repeat (first | apply Kd.R_alloc | apply Kd.R_drewN | apply Kd.R_drew)); exact HO169.out)) k_ hk)); (case aO => exact (by (with_reducible repeat (first | apply Kd.R_alloc | apply Kd.R_drewN | apply Kd.R_drew)); exact Kd.R_mono HO_3.out (fun _ hk => hk.2))); (case aS => exact (below_size (by repeat (first | (with_reducible first | exact HB.out | apply below_alloc | apply pw_below_drewN | apply below_drew1) | exact HB.out)))); (case aL => have := LMc7.out; omega); intro v171 w9 ho hb hg hat; rw [← Ny170.out] at ho; have n0_ := Aside0.mk (Kd.R_after (ok := (fun _ => True)) (by (with_reducible repeat (first | apply Kd.R_alloc | apply Kd.R_drewN | apply Kd.R_drew)); exact HO169.out) hg hat); have n1_ := Aside0.mk (hb); have n2_ := Aside0.mk (ho); clear HO169; clear HB; clear HO_3; have HO169 := n0_; have HB := n1_; have HO172 := n2_; clear n0_ n1_ n2_; clear ho hb hg hat))
            go_roundg k1
            case measure => have := HK1.out; omega
            case rel => exact ⟨(y170), (wrap64 (x4_1 + 1)), (by first | rfl | (simp; done) | (simp [*]; done)), H', ⟨by have := HK1.out; omega⟩, ⟨by (with_reducible repeat (first | apply Kd.R_alloc | apply Kd.R_drewN | apply Kd.R_drew)); exact Kd.R_mono HO172.out (fun _ hk => trivial)⟩, ⟨by repeat (first | (with_reducible first | exact HB.out | apply below_alloc | apply pw_below_drewN | apply below_drew1) | exact HB.out)⟩⟩
          · rw [if_neg c7] at H
            exact absurd H (by simp)
        · rw [if_neg c5] at H
          exact absurd H (by simp)
      · rw [if_neg c4] at H
        have c4b0 : decide (x4_1 < (l0.length : Int)) = false := decide_eq_false c4
        clear c4
        obtain rfl := Option.some.inj H
        have hcv11 := own_string (P := Tryd.prog) Tryd.underlying37 Tryd.underlying5 Tryd.underlying9 (Kd.own_of_R HO_3.out)
        go_wp2
        go_ret
        exact ⟨by first | rfl | (simp [errW_none, errW_some] <;> rfl) | (simp [*, errW_none, errW_some] <;> rfl), by repeat (first | (with_reducible first | exact HB.out | apply below_alloc | apply pw_below_drewN | apply below_drew1) | exact HB.out)⟩

end Go.Proofs.YtnmjocoopbfpnaaDoor.PRefA
