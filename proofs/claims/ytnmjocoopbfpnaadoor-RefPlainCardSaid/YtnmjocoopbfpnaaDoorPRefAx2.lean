-- Laid by a program of this session (tools/patch_print.py) out of the translation. Not trusted: Lean checks it.
import Derived.Test.YtnmjocoopbfpnaaDoorPRefAx0
import Derived.Test.YtnmjocoopbfpnaaDoorPRefAx1
namespace Go.Proofs.YtnmjocoopbfpnaaDoor.PRefA
open Go.RowKit Go.Proofs.YtnmjocoopbfpnaaDoorW.PrintWords Go.Proofs.YtnmjocoopbfpnaaDoorW.PrintLast Go.Proofs.YtnmjocoopbfpnaaDoorW.PrintMore
attribute [local go_sem] max2_int min2_int max_two min_two max_three min_three max_four min_four   -- for this text's walks alone
set_option linter.unusedVariables false
set_option linter.unusedSimpArgs false

/-! ### entity_get: function 27 -/
def entity_get.less (t : Nat) (x : ByteArray) : Bool := Op.bytesLess (entS t).toList x.toList
def entity_get.bs (x : ByteArray) : Nat → Nat → Nat → Nat
  | 0, lo, _ => lo
  | f + 1, lo, hi => if lo < hi then (if entity_get.less ((lo + hi) / 2) x then entity_get.bs x f ((lo + hi) / 2 + 1) hi else entity_get.bs x f lo ((lo + hi) / 2)) else lo
theorem entity_get.bs_fuel (x : ByteArray) : ∀ (f g lo hi : Nat), hi - lo ≤ f → hi - lo ≤ g → entity_get.bs x f lo hi = entity_get.bs x g lo hi
  | 0, 0, _, _, _, _ => rfl
  | 0, g + 1, lo, hi, hf, _ => by simp [entity_get.bs, show ¬ lo < hi by omega]
  | f + 1, 0, lo, hi, _, hg => by simp [entity_get.bs, show ¬ lo < hi by omega]
  | f + 1, g + 1, lo, hi, hf, hg => by
    unfold entity_get.bs
    by_cases h : lo < hi
    · rw [if_pos h, if_pos h, entity_get.bs_fuel x f g _ _ (by omega) (by omega), entity_get.bs_fuel x f g lo _ (by omega) (by omega)]
    · rw [if_neg h, if_neg h]
/-- The place at which the halving ends. -/
def entity_get.at_ (x : ByteArray) : Nat := entity_get.bs x 61 0 61
def entity_get.is (x : ByteArray) : Bool := decide (entity_get.at_ x < 61) && ((entS (entity_get.at_ x)).toList == x.toList)
def entity_get.f (x : ByteArray) : Option (ByteArray × Bool) := some (if entity_get.is x then (entT (entity_get.at_ x), true) else (⟨#[]⟩, false))
def entity_get.cmp (a x : ByteArray) : Int := if Op.bytesLess a.toList x.toList then -1 else if a.toList == x.toList then 0 else 1
theorem entity_get.nan (x : ByteArray) (w : World) : Calls Tryd.prog 54 #[.string x] w fun e w' => e = .returned (.bool false) ∧ w' = w := by
  go_enter Tryd.func54, Tryd.ntmps54
  go_wp2
  go_ret
  exact ⟨by simp, rfl⟩
theorem entity_get.compare (a x : ByteArray) (w : World) : Calls Tryd.prog 44 #[.string a, .string x] w fun e w' => e = .returned (.int .i64 (entity_get.cmp a x)) ∧ w' = w := by
  unfold entity_get.cmp
  cases h1 : Op.bytesLess a.toList x.toList <;> cases h2 : (a.toList == x.toList)
  all_goals
    go_enter Tryd.func44, Tryd.ntmps44
    go_wp2_with (go_at_call 54; refine (entity_get.nan _ _).mono ?_; rintro e w' ⟨rfl, rfl⟩)
    go_ret
    exact ⟨rfl, rfl⟩
theorem entity_get.closure (a b x : ByteArray) (w : World) : Calls Tryd.prog 43 #[.agg #[.string a, .string b], .string x] w fun e w' => e = .returned (.int .i64 (entity_get.cmp a x)) ∧ Below w.heap.size w w' := by
  go_enter Tryd.func43, Tryd.ntmps43
  go_wp2_with (go_at_call 44; refine (entity_get.compare _ _ _).mono ?_; rintro e w' ⟨rfl, rfl⟩)
  go_ret
  exact ⟨rfl, by go_grown⟩
set_option maxHeartbeats 4000000 in
set_option maxRecDepth 1000000 in
theorem entity_get.search (x : ByteArray) (w : World) (hW : Wok w) : Calls Tryd.prog 42 #[.slice (some ⟨0, 0, none⟩) 61 61, .string x, .func (.func 43) #[] #[]] w fun e w' =>
    e = .returned (.tuple #[.int .i64 (entity_get.at_ x : Nat), .bool (entity_get.is x)]) ∧ Below w.heap.size w w' := by
  have HW := Lib.hid hW
  clear hW
  obtain ⟨I, hI⟩ : ∃ I, entity_get.at_ x = I := ⟨_, rfl⟩
  unfold entity_get.is
  rw [hI]
  have hI2 : entity_get.bs x 61 0 61 = I := hI
  clear hI
  go_enter Tryd.func42, Tryd.ntmps42
  go_wp2
  go_loopg [9, 10] 61 (fun g s9 s10 wr => ∃ lo hi : Nat, s9 = .int .i64 lo ∧ s10 = .int .i64 hi ∧ lo ≤ hi ∧ hi ≤ 61 ∧ hi - lo ≤ g ∧ Hid (Below w.heap.size w wr) ∧ Hid (entity_get.bs x g lo hi = I))
  case atStart => exact ⟨0, 61, rfl, rfl, Nat.zero_le _, Nat.le_refl _, by omega, Lib.hid (Below.refl _ _), Lib.hid hI2⟩
  case round =>
    clear hI2
    obtain ⟨lo, hi, rfl, rfl, hlh, hin, hg, HB, HL⟩ := hrel
    by_cases hlt : lo < hi
    · have cm := (Wok_below HW.out HB.out).cell ((lo + hi) / 2) (by omega)
      obtain ⟨c1, c2⟩ := cm
      obtain ⟨g', rfl⟩ : ∃ g', gk = g' + 1 := ⟨gk - 1, by omega⟩
      have hb := HL.out
      clear HL
      rw [entity_get.bs, if_pos hlt] at hb
      have HC := Lib.hid (fun W : World => entity_get.closure (entS ((lo + hi) / 2)) (entT ((lo + hi) / 2)) x W)
      unfold entity_get.less at hb
      rw [Nat.mul_comm] at c1 c2
      generalize entS ((lo + hi) / 2) = y at *
      generalize entT ((lo + hi) / 2) = z at *
      obtain ⟨c, hc⟩ : ∃ c, entity_get.cmp y x = c := ⟨_, rfl⟩
      rw [hc] at HC
      cases hyx : Op.bytesLess y.toList x.toList
      · have hc0 : ¬ c < 0 := by
          rw [← hc]
          unfold entity_get.cmp
          rw [hyx]
          split
          · contradiction
          · split <;> decide
        rw [hyx] at hb
        have HL := Lib.hid hb
        clear hb hc hyx
        go_wp2_with (go_at_call 43; refine (HC.out _).mono ?_; rintro e w' ⟨rfl, hb1⟩)
        go_roundg ((lo + hi) / 2 - lo)
        case measure => omega
        case rel => exact ⟨lo, (lo + hi) / 2, rfl, by rw [show ((lo : Int) + (hi : Int)) / 2 = (((lo + hi) / 2 : Nat) : Int) by omega], by omega, by omega, Nat.le_refl _, Lib.hid (HB.out.trans (hb1.mono HB.out.size)), Lib.hid (by rw [← HL.out]; exact entity_get.bs_fuel _ _ _ _ _ (Nat.le_refl _) (by omega))⟩
      · have hc0 : c < 0 := by
          rw [← hc]
          unfold entity_get.cmp
          rw [hyx, if_pos rfl]
          decide
        rw [hyx] at hb
        have HL := Lib.hid hb
        clear hb hc hyx
        go_wp2_with (go_at_call 43; refine (HC.out _).mono ?_; rintro e w' ⟨rfl, hb1⟩)
        go_roundg (hi - ((lo + hi) / 2 + 1))
        case measure => omega
        case rel => exact ⟨(lo + hi) / 2 + 1, hi, by rw [show ((lo : Int) + (hi : Int)) / 2 + 1 = (((lo + hi) / 2 + 1 : Nat) : Int) by omega], rfl, by omega, hin, Nat.le_refl _, Lib.hid (HB.out.trans (hb1.mono HB.out.size)), Lib.hid (by rw [← HL.out]; exact entity_get.bs_fuel _ _ _ _ _ (Nat.le_refl _) (by omega))⟩
    · obtain rfl : hi = lo := by omega
      have hIe : I = hi := by
        rw [← HL.out]
        cases gk <;> simp [entity_get.bs]
      subst hIe
      clear HL
      by_cases hn : I < 61
      · obtain ⟨c1, c2⟩ := (Wok_below HW.out HB.out).cell I hn
        have HC := Lib.hid (fun W : World => entity_get.closure (entS I) (entT I) x W)
        rw [Nat.mul_comm] at c1 c2
        obtain ⟨y, hy⟩ : ∃ y, entS I = y := ⟨_, rfl⟩
        obtain ⟨z, hz⟩ : ∃ z, entT I = z := ⟨_, rfl⟩
        rw [hy] at c1 HC
        rw [hz] at c2 HC
        have HY := Lib.hid hy
        clear hy hz
        obtain ⟨c, hc⟩ : ∃ c, entity_get.cmp y x = c := ⟨_, rfl⟩
        rw [hc] at HC
        by_cases hc0 : c = 0
        · have heq : (y.toList == x.toList) = true := by
            subst hc0
            unfold entity_get.cmp at hc
            split at hc
            · cases hc
            · split at hc
              · assumption
              · cases hc
          have HE := Lib.hid heq
          clear heq
          subst hc0
          clear hc
          go_wp2_with (go_at_call 43; refine (HC.out _).mono ?_; rintro e w' ⟨rfl, hb1⟩)
          go_ret2
          refine ⟨?_, HB.out.trans (hb1.mono HB.out.size)⟩
          rw [HY.out, HE.out, decide_eq_true hn]
          rfl
        · have heq : (y.toList == x.toList) = false := by
            rw [← hc] at hc0
            unfold entity_get.cmp at hc0
            cases he : (y.toList == x.toList) with
            | false => rfl
            | true =>
              rw [he] at hc0
              have : y.toList = x.toList := by simpa using he
              rw [this, bytesLess_eq] at hc0
              simp at hc0
          have HE := Lib.hid heq
          clear heq hc
          go_wp2_with (go_at_call 43; refine (HC.out _).mono ?_; rintro e w' ⟨rfl, hb1⟩)
          go_ret2
          refine ⟨?_, HB.out.trans (hb1.mono HB.out.size)⟩
          rw [HY.out, HE.out, Bool.and_false]
          rw [show (Value.bool false) = Value.bool (c == 0) from congrArg Value.bool (beq_eq_false_iff_ne.2 hc0).symm]
          rfl
      · go_wp2
        go_ret2
        refine ⟨?_, HB.out⟩
        first
          | rfl
          | (rw [decide_eq_false hn, Bool.false_and]; rfl)
set_option maxHeartbeats 4000000 in
set_option maxRecDepth 1000000 in
theorem entity_get.calls (x : ByteArray) (r1 : ByteArray) (r2 : Bool) (w : World) (hW : Wok w) (h : entity_get.f x = some (r1, r2)) :
    Calls Tryd.prog 27 #[.string x] w fun e w' => e = .returned (.tuple #[.string r1, .bool r2]) ∧ Below w.heap.size w w' := by
  have HW := Lib.hid hW
  have HS := Lib.hid (entity_get.search x w hW)
  clear hW
  unfold entity_get.f at h
  cases hi : entity_get.is x with
  | false =>
    rw [hi] at h
    obtain ⟨rfl, rfl⟩ := Prod.mk.inj (Option.some.inj h)
    rw [hi] at HS
    clear hi h
    go_enter Tryd.func27, Tryd.ntmps27
    go_wp2_with (go_at_call 42; refine HS.out.mono ?_; rintro e w' ⟨rfl, hb1⟩)
    go_ret2
    exact ⟨rfl, hb1⟩
  | true =>
    rw [hi] at h
    obtain ⟨rfl, rfl⟩ := Prod.mk.inj (Option.some.inj h)
    rw [hi] at HS
    have hlt : entity_get.at_ x < 61 := by
      unfold entity_get.is at hi
      rw [Bool.and_eq_true] at hi
      exact of_decide_eq_true hi.1
    clear hi h
    generalize entity_get.at_ x = I at *
    go_enter Tryd.func27, Tryd.ntmps27
    go_wp2_with (go_at_call 42; refine HS.out.mono ?_; rintro e w' ⟨rfl, hb1⟩; obtain ⟨c1, c2⟩ := (Wok_below HW.out hb1).cell I hlt; rw [Nat.mul_comm] at c1 c2)
    go_ret2
    exact ⟨rfl, hb1⟩

/-! ### entity_Find: function 14 -/
def entity_Find.l0 : Nat → ByteArray → Int → Option (Int × ByteArray)
  | 0, _, _ => none
  | k + 1, x0, x4 => if x4 > 0 then (if 0 ≤ x4 then (if x4 ≤ (x0.size : Int) then ((entity_get.f (x0.extract 0 (x4 : Int).toNat)).bind fun bt118 => (if bt118.2 = true then (some (x4, bt118.1)) else (entity_Find.l0 k x0 (wrap64 (x4 - 1))))) else (none)) else (none)) else (some (0, (⟨#[]⟩ : ByteArray)))
def entity_Find.f (k : Nat) (a0 : ByteArray) : Option (Int × ByteArray) := entity_Find.l0 k a0 (mn (a0.size : Int) 8)
theorem entity_Find.mono_l : ∀ k, (∀ y0 y1, LeO (entity_Find.l0 k y0 y1) (entity_Find.l0 (k + 1) y0 y1))
  | 0 => fun _ _ r h => by simp [entity_Find.l0] at h
  | k + 1 => by
    have ih0 := entity_Find.mono_l k
    · intro y0 y1
      unfold entity_Find.l0
      repeat' first
      | (with_reducible exact ih0 _ _)
      | (with_reducible exact LeO.refl _)
      | (with_reducible exact LeO.none _)
      | (with_reducible refine LeO.ite ?_ ?_)
      | (with_reducible refine LeO.bind ?_ (fun _ => ?_))
      | exact ih0 _ _
      | exact LeO.none _
      | refine LeO.ite ?_ ?_
      | refine LeO.bind ?_ (fun _ => ?_)
theorem entity_Find.mono : ∀ a0 k, LeO (entity_Find.f k a0) (entity_Find.f (k + 1) a0) := by
  intro a0 k
  have ih0 := entity_Find.mono_l k
  unfold entity_Find.f
  repeat' first
      | (with_reducible exact ih0 _ _)
      | (with_reducible exact LeO.refl _)
      | (with_reducible exact LeO.none _)
      | (with_reducible refine LeO.ite ?_ ?_)
      | (with_reducible refine LeO.bind ?_ (fun _ => ?_))
      | exact ih0 _ _
      | exact LeO.none _
      | refine LeO.ite ?_ ?_
      | refine LeO.bind ?_ (fun _ => ?_)
set_option maxHeartbeats 8000000 in
set_option maxRecDepth 100000 in
theorem entity_Find.calls (k : Nat) (a0 : ByteArray) (r1 : Int) (r2 : ByteArray) (w : World) (hW : Wok w) (h : entity_Find.f k a0 = some (r1, r2)) :
    Calls Tryd.prog 14 #[.string a0] w fun e w' => e = .returned (.tuple #[.int .i64 r1, .string r2]) ∧ Below w.heap.size w w' := by
  have HB := Aside0.mk (Below.refl w.heap.size w)
  have H : (entity_Find.l0 k a0 (mn (a0.size : Int) 8)) = some (r1, r2) := h
  clear h
  obtain ⟨ji2, hji2⟩ : ∃ j_ : Int, (mn (a0.size : Int) 8) = j_ := ⟨_, rfl⟩
  replace H : (entity_Find.l0 k a0 ji2) = some (r1, r2) := by first | (rw [hji2] at H; exact H) | (simp only [hji2] at H ⊢; exact H)
  (try (have hji2h : ji2 ≤ 8 := by (rw [← hji2]; unfold mn; (repeat' split) <;> omega)))
  (try (have hji2g : ji2 ≤ 64 := by omega))
  (try (have hji2l : 0 ≤ ji2 := by (rw [← hji2]; unfold mn; (repeat' split) <;> omega)))
  (try (have hji2m : 0 ≤ ji2 := by omega))
  have hji2_ : (if 8 < (a0.size : Int) then 8 else (a0.size : Int)) = ji2 := hji2
  have H' := Aside0.mk H
  clear H
  go_enter Tryd.func14, Tryd.ntmps14
  go_wp2
  go_loopg [4] k (fun kq v4 w' => ∃ (x4_1 : Int), v4 = .int .i64 x4_1 ∧ Aside0 (entity_Find.l0 kq a0 x4_1 = some (r1, r2)) ∧ Aside0 (kq ≤ k) ∧ Aside0 (Below w.heap.size w w'))
  case atStart => exact ⟨(ji2), (by first | rfl | (simp; done) | (simp only [← hji2] <;> (first | rfl | simp)) | (simp [*]; done)), H', ⟨Nat.le_refl _⟩, ⟨by repeat (first | (with_reducible first | exact HB.out | apply below_alloc | apply pw_below_drewN | apply below_drew1) | exact HB.out)⟩⟩
  case round =>
    clear H'
    try clear c1
    try clear p2
    obtain ⟨x4_1, rfl, HA, HK1, HB⟩ := hrel
    cases gk with
    | zero => exact absurd HA.out (by simp [entity_Find.l0])
    | succ k1 =>
      have H := HA.out
      clear HA
      simp only [entity_Find.l0] at H
      by_cases c3 : x4_1 > 0
      · rw [if_pos c3] at H
        have c3b0 : decide (0 < x4_1) = true := decide_eq_true c3
        clear c3
        by_cases c4 : 0 ≤ x4_1
        · rw [if_pos c4] at H
          have c4b0 := eq_true c4
          have c4b1 : decide (0 ≤ x4_1) = true := decide_eq_true c4
          clear c4
          by_cases c5 : x4_1 ≤ (a0.size : Int)
          · rw [if_pos c5] at H
            have c5b0 := eq_true c5
            have c5b1 : decide (x4_1 ≤ (a0.size : Int)) = true := decide_eq_true c5
            clear c5
            replace H := Option.bind_eq_some_iff.mp H
            obtain ⟨⟨t118, t119⟩, A60, H⟩ := H
            replace H : (if t119 = true then (some (x4_1, t118)) else (entity_Find.l0 k1 a0 (wrap64 (x4_1 - 1)))) = some (r1, r2) := H
            have A6 := Aside0.mk A60
            clear A60
            by_cases c7 : t119 = true
            · subst c7
              have H1 : (some (x4_1, t118)) = some (r1, r2) := by rw [if_pos rfl] at H; exact H
              clear H
              have H := H1
              clear H1
              simp only [Option.some.injEq, Prod.mk.injEq] at H
              obtain ⟨rfl, rfl⟩ := H
              go_wp2_with (first | ((with_reducible refine gate_callee (f := 27) rfl ?_); refine goesL_ (some 18) rfl rfl Tryd.func27 (by kernel_rfl) rfl #[.string (a0.extract 0 (x4_1 : Int).toNat)] rfl (by (try simp only [List.map_toArray, List.map_cons, List.map_nil]); first | done | rfl | (simp only [List.length_drop, List.length_take]; rfl)) ?_; (with_reducible refine (entity_get.calls (a0.extract 0 (x4_1 : Int).toNat) t118 true _ (Wok_below hW (by repeat (first | (with_reducible first | exact HB.out | apply below_alloc | apply pw_below_drewN | apply below_drew1) | exact HB.out))) A6.out).mono ?_); rintro e w8 ⟨rfl, hb⟩; refine ⟨_, rfl, ?_⟩; have n0_ := Aside0.mk (below_step (by repeat (first | (with_reducible first | exact HB.out | apply below_alloc | apply pw_below_drewN | apply below_drew1) | exact HB.out)) hb); clear HB; have HB := n0_; clear n0_; (try clear hb); (try clear hb2); (try clear hk); (try clear hi)))
              go_ret2
              exact ⟨by first | rfl | (simp [errW_none, errW_some] <;> rfl) | (simp only [← hji2]; first | rfl | (simp [errW_none, errW_some] <;> rfl)) | (simp [*, errW_none, errW_some] <;> rfl), by repeat (first | (with_reducible first | exact HB.out | apply below_alloc | apply pw_below_drewN | apply below_drew1) | exact HB.out)⟩
            · replace c7 := Bool.eq_false_iff.mpr c7
              subst c7
              have H1 : (entity_Find.l0 k1 a0 (wrap64 (x4_1 - 1))) = some (r1, r2) := by rw [if_neg (show ¬ (false = true) by decide)] at H; exact H
              clear H
              have H := H1
              clear H1
              have H' := Aside0.mk H
              clear H
              go_wp2_with (first | ((with_reducible refine gate_callee (f := 27) rfl ?_); refine goesL_ (some 18) rfl rfl Tryd.func27 (by kernel_rfl) rfl #[.string (a0.extract 0 (x4_1 : Int).toNat)] rfl (by (try simp only [List.map_toArray, List.map_cons, List.map_nil]); first | done | rfl | (simp only [List.length_drop, List.length_take]; rfl)) ?_; (with_reducible refine (entity_get.calls (a0.extract 0 (x4_1 : Int).toNat) t118 false _ (Wok_below hW (by repeat (first | (with_reducible first | exact HB.out | apply below_alloc | apply pw_below_drewN | apply below_drew1) | exact HB.out))) A6.out).mono ?_); rintro e w9 ⟨rfl, hb⟩; refine ⟨_, rfl, ?_⟩; have n0_ := Aside0.mk (below_step (by repeat (first | (with_reducible first | exact HB.out | apply below_alloc | apply pw_below_drewN | apply below_drew1) | exact HB.out)) hb); clear HB; have HB := n0_; clear n0_; (try clear hb); (try clear hb2); (try clear hk); (try clear hi)))
              go_roundg k1
              case measure => have := HK1.out; omega
              case rel => exact ⟨(wrap64 (x4_1 - 1)), (by first | rfl | (simp; done) | (simp [*]; done)), H', ⟨by have := HK1.out; omega⟩, ⟨by repeat (first | (with_reducible first | exact HB.out | apply below_alloc | apply pw_below_drewN | apply below_drew1) | exact HB.out)⟩⟩
          · rw [if_neg c5] at H
            exact absurd H (by simp)
        · rw [if_neg c4] at H
          exact absurd H (by simp)
      · rw [if_neg c3] at H
        have c3b0 : decide (0 < x4_1) = false := decide_eq_false c3
        clear c3
        simp only [Option.some.injEq, Prod.mk.injEq] at H
        obtain ⟨rfl, rfl⟩ := H
        go_wp2
        go_ret2
        exact ⟨by first | rfl | (simp [errW_none, errW_some] <;> rfl) | (simp only [← hji2]; first | rfl | (simp [errW_none, errW_some] <;> rfl)) | (simp [*, errW_none, errW_some] <;> rfl), by repeat (first | (with_reducible first | exact HB.out | apply below_alloc | apply pw_below_drewN | apply below_drew1) | exact HB.out)⟩

/-! ### class_Letter: function 50 -/
def class_Letter.f (a0 : Int) : Option (Bool) := (class_Lower.f a0).bind fun t120 => ((class_within.f t120 97 122).bind fun t121 => (some t121))
set_option maxHeartbeats 8000000 in
set_option maxRecDepth 100000 in
theorem class_Letter.calls (a0 : Int) (r : Bool) (w : World) (h : class_Letter.f a0 = some r) :
    Calls Tryd.prog 50 #[.int .i32 a0] w fun e w' => e = .returned (.bool r) ∧ Drawn0 w w' := by
  have H : ((class_Lower.f a0).bind fun t120 => ((class_within.f t120 97 122).bind fun t121 => (some t121))) = some r := h
  clear h
  replace H := Option.bind_eq_some_iff.mp H
  obtain ⟨t120, A20, H⟩ := H
  replace H : ((class_within.f t120 97 122).bind fun t121 => (some t121)) = some r := H
  have A2 := Aside0.mk A20
  clear A20
  replace H := Option.bind_eq_some_iff.mp H
  obtain ⟨t121, A30, H⟩ := H
  replace H : (some t121) = some r := H
  have A3 := Aside0.mk A30
  clear A30
  obtain rfl := Option.some.inj H
  go_enter Tryd.func50, Tryd.ntmps50
  go_wp2_with (first | ((with_reducible refine gate_callee (f := 48) rfl ?_); refine goesL_ (some 4) rfl rfl Tryd.func48 (by kernel_rfl) rfl #[.int .i32 a0] rfl (by (try simp only [List.map_toArray, List.map_cons, List.map_nil]); first | done | rfl | (simp only [List.length_drop, List.length_take]; rfl)) ?_; (with_reducible refine (class_Lower.calls a0 t120 _ A2.out).mono ?_); rintro e w' ⟨rfl, ⟨nd, rfl⟩⟩; refine ⟨_, rfl, ?_⟩) | ((with_reducible refine gate_callee (f := 58) rfl ?_); refine goesL_ (some 5) rfl rfl Tryd.func58 (by kernel_rfl) rfl #[.int .i32 t120, .int .i32 97, .int .i32 122] rfl (by (try simp only [List.map_toArray, List.map_cons, List.map_nil]); first | done | rfl | (simp only [List.length_drop, List.length_take]; rfl)) ?_; (with_reducible refine (class_within.calls t120 97 122 t121 _ A3.out).mono ?_); rintro e w' ⟨rfl, ⟨nd, rfl⟩⟩; refine ⟨_, rfl, ?_⟩))
  go_ret
  exact ⟨by first | rfl | (simp; done) | (simp [*]; done), by repeat (first | exact Drawn0.refl _ | apply Drawn0.step)⟩

/-! ### ref_name: function 35 -/
def ref_name.j0 : Nat → List Int → Int → ByteArray → Bool → Option (ByteArray × Int)
  | 0, _, _, _, _ => none
  | k + 1, x0, x6, x7, x38 => if x38 = true then (some (x7, x6)) else (if 0 ≤ x6 then (if x6 < (x0.length : Int) then (if (wrap32 (rd x0 x6)) = 61 then (some ((⟨#[]⟩ : ByteArray), 0)) else ((class_Letter.f (wrap32 (rd x0 x6))).bind fun t127 => (if t127 = true then (some ((⟨#[]⟩ : ByteArray), 0)) else ((class_Digit.f (wrap32 (rd x0 x6))).bind fun t128 => (if t128 = true then (some ((⟨#[]⟩ : ByteArray), 0)) else (some (x7, x6))))))) else (none)) else (none))
def ref_name.f (k : Nat) (l0 : List Int) (a1 : Bool) : Option (ByteArray × Int) := if 0 ≤ (mn (l0.length : Int) 8) then (if (mn (l0.length : Int) 8) ≤ (l0.length : Int) then ((entity_Find.f k (strOfNums (l0.take ((mn (l0.length : Int) 8) : Int).toNat))).bind fun bt123 => (if bt123.1 = 0 then (ref_name.j0 k l0 bt123.1 bt123.2 true) else (if a1 = true then (if 0 ≤ (wrap64 (bt123.1 - 1)) then (if (wrap64 (bt123.1 - 1)) < (l0.length : Int) then (if (rd l0 (wrap64 (bt123.1 - 1))) = 59 then (ref_name.j0 k l0 bt123.1 bt123.2 true) else (ref_name.j0 k l0 bt123.1 bt123.2 (bt123.1 == (l0.length : Int)))) else (none)) else (none)) else (ref_name.j0 k l0 bt123.1 bt123.2 true)))) else (none)) else (none)
theorem ref_name.mono_l : ∀ k, (∀ y0 y1 y2 y3, LeO (ref_name.j0 k y0 y1 y2 y3) (ref_name.j0 (k + 1) y0 y1 y2 y3))
  | 0 => fun _ _ _ _ r h => by simp [ref_name.j0] at h
  | k + 1 => by
    have ih0 := ref_name.mono_l k
    · intro y0 y1 y2 y3
      unfold ref_name.j0
      repeat' first
      | (with_reducible exact ih0 _ _ _ _)
      | (with_reducible exact entity_Find.mono _ _)
      | (with_reducible exact LeO.refl _)
      | (with_reducible exact LeO.none _)
      | (with_reducible refine LeO.ite ?_ ?_)
      | (with_reducible refine LeO.bind ?_ (fun _ => ?_))
      | exact ih0 _ _ _ _
      | exact entity_Find.mono _ _
      | exact LeO.none _
      | refine LeO.ite ?_ ?_
      | refine LeO.bind ?_ (fun _ => ?_)
theorem ref_name.mono : ∀ a0 a1 k, LeO (ref_name.f k a0 a1) (ref_name.f (k + 1) a0 a1) := by
  intro a0 a1 k
  have ih0 := ref_name.mono_l k
  unfold ref_name.f
  repeat' first
      | (with_reducible exact ih0 _ _ _ _)
      | (with_reducible exact entity_Find.mono _ _)
      | (with_reducible exact LeO.refl _)
      | (with_reducible exact LeO.none _)
      | (with_reducible refine LeO.ite ?_ ?_)
      | (with_reducible refine LeO.bind ?_ (fun _ => ?_))
      | exact ih0 _ _ _ _
      | exact entity_Find.mono _ _
      | exact LeO.none _
      | refine LeO.ite ?_ ?_
      | refine LeO.bind ?_ (fun _ => ?_)
set_option maxHeartbeats 8000000 in
set_option maxRecDepth 100000 in
theorem ref_name.calls (k : Nat) (A0 : Option Addr) (c0 : Nat) (l0 : List Int) (a1 : Bool) (r1 : ByteArray) (r2 : Int) (w : World) (hW : Wok w) (hr0 : Kd.C (Kd.int .u8) w A0 l0.length l0) (hc0 : l0.length ≤ c0) (h : ref_name.f k l0 a1 = some (r1, r2)) :
    Calls Tryd.prog 35 #[.slice A0 l0.length c0, .bool a1] w fun e w' => e = .returned (.tuple #[.string r1, .int .i64 r2]) ∧ Below w.heap.size w w' := by
  have HR0 := Aside0.mk hr0
  have HC0 := Aside0.mk hc0
  clear hr0 hc0
  have HB := Aside0.mk (Below.refl w.heap.size w)
  have H : (if 0 ≤ (mn (l0.length : Int) 8) then (if (mn (l0.length : Int) 8) ≤ (l0.length : Int) then ((entity_Find.f k (strOfNums (l0.take ((mn (l0.length : Int) 8) : Int).toNat))).bind fun bt123 => (if bt123.1 = 0 then (ref_name.j0 k l0 bt123.1 bt123.2 true) else (if a1 = true then (if 0 ≤ (wrap64 (bt123.1 - 1)) then (if (wrap64 (bt123.1 - 1)) < (l0.length : Int) then (if (rd l0 (wrap64 (bt123.1 - 1))) = 59 then (ref_name.j0 k l0 bt123.1 bt123.2 true) else (ref_name.j0 k l0 bt123.1 bt123.2 (bt123.1 == (l0.length : Int)))) else (none)) else (none)) else (ref_name.j0 k l0 bt123.1 bt123.2 true)))) else (none)) else (none)) = some (r1, r2) := h
  clear h
  obtain ⟨ji3, hji3⟩ : ∃ j_ : Int, (mn (l0.length : Int) 8) = j_ := ⟨_, rfl⟩
  replace H : (if 0 ≤ (ji3) then (if (ji3) ≤ (l0.length : Int) then ((entity_Find.f k (strOfNums (l0.take ((ji3) : Int).toNat))).bind fun bt123 => (if bt123.1 = 0 then (ref_name.j0 k l0 bt123.1 bt123.2 true) else (if a1 = true then (if 0 ≤ (wrap64 (bt123.1 - 1)) then (if (wrap64 (bt123.1 - 1)) < (l0.length : Int) then (if (rd l0 (wrap64 (bt123.1 - 1))) = 59 then (ref_name.j0 k l0 bt123.1 bt123.2 true) else (ref_name.j0 k l0 bt123.1 bt123.2 (bt123.1 == (l0.length : Int)))) else (none)) else (none)) else (ref_name.j0 k l0 bt123.1 bt123.2 true)))) else (none)) else (none)) = some (r1, r2) := by first | (rw [hji3] at H; exact H) | (simp only [hji3] at H ⊢; exact H)
  (try (have hji3h : ji3 ≤ 8 := by (rw [← hji3]; unfold mn; (repeat' split) <;> omega)))
  (try (have hji3g : ji3 ≤ 64 := by omega))
  (try (have hji3l : 0 ≤ ji3 := by (rw [← hji3]; unfold mn; (repeat' split) <;> omega)))
  (try (have hji3m : 0 ≤ ji3 := by omega))
  have hji3_ : (if 8 < (l0.length : Int) then 8 else (l0.length : Int)) = ji3 := hji3
  by_cases c4 : 0 ≤ (ji3)
  · rw [if_pos c4] at H
    have c4b0 := eq_true c4
    have c4b1 : decide (0 ≤ (ji3)) = true := decide_eq_true c4
    clear c4
    by_cases c5 : (ji3) ≤ (l0.length : Int)
    · rw [if_pos c5] at H
      have c5b0 := eq_true c5
      have c5b1 : decide ((ji3) ≤ (l0.length : Int)) = true := decide_eq_true c5
      clear c5
      replace H := Option.bind_eq_some_iff.mp H
      obtain ⟨⟨t123, t124⟩, A60, H⟩ := H
      replace H : (if t123 = 0 then (ref_name.j0 k l0 t123 t124 true) else (if a1 = true then (if 0 ≤ (wrap64 (t123 - 1)) then (if (wrap64 (t123 - 1)) < (l0.length : Int) then (if (rd l0 (wrap64 (t123 - 1))) = 59 then (ref_name.j0 k l0 t123 t124 true) else (ref_name.j0 k l0 t123 t124 (t123 == (l0.length : Int)))) else (none)) else (none)) else (ref_name.j0 k l0 t123 t124 true))) = some (r1, r2) := H
      have A6 := Aside0.mk A60
      clear A60
      have HC7 := Aside0.mk H
      clear H
      obtain ⟨i08, hi08, _, hsz8, _⟩ := info_parts info5
      obtain ⟨hcut8, hA8, hC8⟩ := print_take_of (P := Tryd.prog) (Value.int .u8) 0 37 5 .i64 Tryd.underlying37 hi08 hsz8 A0 c0 l0 (ji3) (of_decide_eq_true (by first | (with_reducible assumption) | assumption)) (of_decide_eq_true (by first | (with_reducible assumption) | assumption)) HC0.out
      have HR122 := Aside0.mk (Kd.C_of_reads (h1 := fun _ => rfl) (hA8 _ (Kd.reads_of_C HR0.out)))
      have HC122 := Aside0.mk hC8
      clear hA8 hC8 hi08 hsz8
      have hcv9 := Kd.C_string (P := Tryd.prog) (A := A0) (c := c0) Tryd.underlying37 Tryd.underlying5 Tryd.underlying9 HR122.out
      have hcw9 := hcv9
      (try simp only [Int.reduceToNat] at hcw9)
      (try rw [show (l0.take ((ji3) : Int).toNat).length = (ji3).toNat from (by rw [List.length_take]; have h_ : ((ji3) : Int) ≤ (l0.length : Int) := of_decide_eq_true (by first | (with_reducible assumption) | assumption); omega)] at hcw9)
      go_enter Tryd.func35, Tryd.ntmps35
      go_upto_region 2 with (first | ((with_reducible refine gate_callee (f := 14) rfl ?_); refine goesL_ (some 16) rfl rfl Tryd.func14 (by kernel_rfl) rfl #[.string (strOfNums (l0.take ((ji3) : Int).toNat))] rfl (by (try simp only [List.map_toArray, List.map_cons, List.map_nil]); first | done | (simp only [hji3]; rfl) | rfl | (simp only [List.length_drop, List.length_take]; rfl)) ?_; (with_reducible refine (entity_Find.calls k (strOfNums (l0.take ((ji3) : Int).toNat)) t123 t124 _ (Wok_below hW (by repeat (first | (with_reducible first | exact HB.out | apply below_alloc | apply pw_below_drewN | apply below_drew1) | exact HB.out))) A6.out).mono ?_); rintro e w10 ⟨rfl, hb⟩; refine ⟨_, rfl, ?_⟩; have n0_ := Aside0.mk (below_step (by repeat (first | (with_reducible first | exact HB.out | apply below_alloc | apply pw_below_drewN | apply below_drew1) | exact HB.out)) hb); clear HB; have HB := n0_; clear n0_; (try clear hb); (try clear hb2); (try clear hk); (try clear hi)))
      (try simp only [Act.put, List.setIfInBounds_toArray, List.set_cons_zero, List.set_cons_succ])
      go_cut [38] (fun v38 wc => ∃ (kq : Nat) (x38_6 : Bool), v38 = .bool x38_6 ∧ Aside0 (ref_name.j0 kq l0 t123 t124 x38_6 = some (r1, r2)) ∧ Aside0 (kq ≤ k) ∧ Aside0 (Below w.heap.size w wc))
      case first =>
        have H := HC7.out
        clear HC7
        by_cases c11 : t123 = 0
        · rw [if_pos c11] at H
          have c11b0 : (t123 == 0) = true := beq_iff_eq.mpr c11
          have c11b1 : (t123 != 0) = false := bne_eq_false_iff_eq.mpr c11
          clear c11
          (first | rw [c11b0] | (simp only [i64_w, i32_w]; rw [c11b0]) | skip)
          have H' := Aside0.mk H
          clear H
          go_wp2
          go_meet
          case rel => exact ⟨_, (true), (by first | rfl | (simp; done) | (simp [*]; done)), H', ⟨by first | omega | exact Nat.le_refl _⟩, ⟨by repeat (first | (with_reducible first | exact HB.out | apply below_alloc | apply pw_below_drewN | apply below_drew1) | exact HB.out)⟩⟩
        · rw [if_neg c11] at H
          have c11b0 : (t123 == 0) = false := beq_eq_false_iff_ne.mpr c11
          have c11b1 : (t123 != 0) = true := bne_iff_ne.mpr c11
          (first | rw [c11b0] | (simp only [i64_w, i32_w]; rw [c11b0]) | skip)
          by_cases c12 : a1 = true
          · subst c12
            have H1 : (if 0 ≤ (wrap64 (t123 - 1)) then (if (wrap64 (t123 - 1)) < (l0.length : Int) then (if (rd l0 (wrap64 (t123 - 1))) = 59 then (ref_name.j0 k l0 t123 t124 true) else (ref_name.j0 k l0 t123 t124 (t123 == (l0.length : Int)))) else (none)) else (none)) = some (r1, r2) := by rw [if_pos rfl] at H; exact H
            clear H
            have H := H1
            clear H1
            obtain ⟨ji13, hji13⟩ : ∃ j_ : Int, (wrap64 (t123 - 1)) = j_ := ⟨_, rfl⟩
            replace H : (if 0 ≤ (ji13) then (if (ji13) < (l0.length : Int) then (if (rd l0 (ji13)) = 59 then (ref_name.j0 k l0 t123 t124 true) else (ref_name.j0 k l0 t123 t124 (t123 == (l0.length : Int)))) else (none)) else (none)) = some (r1, r2) := by first | (rw [hji13] at H; exact H) | (simp only [hji13] at H ⊢; exact H)
            have hji13w : (IntKind.i64.wrap (t123 - 1)) = ji13 := (i64_w _).trans hji13
            by_cases c14 : 0 ≤ (ji13)
            · rw [if_pos c14] at H
              have c14b0 : decide (0 ≤ (ji13)) = true := decide_eq_true c14
              clear c14
              by_cases c15 : (ji13) < (l0.length : Int)
              · rw [if_pos c15] at H
                have c15b0 : decide ((ji13) < (l0.length : Int)) = true := decide_eq_true c15
                clear c15
                by_cases c16 : (rd l0 (ji13)) = 59
                · rw [if_pos c16] at H
                  have c16b0 : ((rd l0 (ji13)) == 59) = true := beq_iff_eq.mpr c16
                  have c16b1 : ((rd l0 (ji13)) != 59) = false := bne_eq_false_iff_eq.mpr c16
                  clear c16
                  have H' := Aside0.mk H
                  clear H
                  have p125 : 0 ≤ ((ji13) : Int) := of_decide_eq_true (by first | (with_reducible assumption) | assumption)
                  have q125 : (ji13) < (l0.length : Int) := of_decide_eq_true (by first | (with_reducible assumption) | assumption)
                  obtain ⟨ad125, e125, hx125_0⟩ := Kd.at_int HR0.out (ji13) p125 q125
                  cases e125
                  replace hx125_0 := (HB.out.cell (World.block_lt_of_cell? w _ hx125_0)).trans hx125_0
                  replace p125 := eq_true p125
                  replace q125 := eq_true q125
                  go_wp2
                  go_meet
                  case rel => exact ⟨_, (true), (by first | rfl | (simp; done) | (simp [*]; done)), H', ⟨by first | omega | exact Nat.le_refl _⟩, ⟨by repeat (first | (with_reducible first | exact HB.out | apply below_alloc | apply pw_below_drewN | apply below_drew1) | exact HB.out)⟩⟩
                · rw [if_neg c16] at H
                  have c16b0 : ((rd l0 (ji13)) == 59) = false := beq_eq_false_iff_ne.mpr c16
                  have c16b1 : ((rd l0 (ji13)) != 59) = true := bne_iff_ne.mpr c16
                  have H' := Aside0.mk H
                  clear H
                  have p125 : 0 ≤ ((ji13) : Int) := of_decide_eq_true (by first | (with_reducible assumption) | assumption)
                  have q125 : (ji13) < (l0.length : Int) := of_decide_eq_true (by first | (with_reducible assumption) | assumption)
                  obtain ⟨ad125, e125, hx125_0⟩ := Kd.at_int HR0.out (ji13) p125 q125
                  cases e125
                  replace hx125_0 := (HB.out.cell (World.block_lt_of_cell? w _ hx125_0)).trans hx125_0
                  replace p125 := eq_true p125
                  replace q125 := eq_true q125
                  go_wp2
                  go_meet
                  case rel => exact ⟨_, ((t123 == (l0.length : Int))), (by first | rfl | (simp; done) | (simp [*]; done)), H', ⟨by first | omega | exact Nat.le_refl _⟩, ⟨by repeat (first | (with_reducible first | exact HB.out | apply below_alloc | apply pw_below_drewN | apply below_drew1) | exact HB.out)⟩⟩
              · rw [if_neg c15] at H
                exact absurd H (by simp)
            · rw [if_neg c14] at H
              exact absurd H (by simp)
          · replace c12 := Bool.eq_false_iff.mpr c12
            subst c12
            have H1 : (ref_name.j0 k l0 t123 t124 true) = some (r1, r2) := by rw [if_neg (show ¬ (false = true) by decide)] at H; exact H
            clear H
            have H := H1
            clear H1
            have H' := Aside0.mk H
            clear H
            go_wp2
            go_meet
            case rel => exact ⟨_, (true), (by first | rfl | (simp; done) | (simp [*]; done)), H', ⟨by first | omega | exact Nat.le_refl _⟩, ⟨by repeat (first | (with_reducible first | exact HB.out | apply below_alloc | apply pw_below_drewN | apply below_drew1) | exact HB.out)⟩⟩
      case rest =>
        clear HC7
        try clear c1
        try clear p1
        try clear q1
        try clear hx1
        try clear p2
        try clear c3
        try clear c4
        try clear c4b0
        try clear c4b1
        try clear c5
        try clear c5b0
        try clear c5b1
        try clear p6
        try clear hcv9
        try clear c11
        try clear c11b0
        try clear c11b1
        try clear c12
        try clear p12
        try clear q12
        try clear hx12
        try clear c14
        try clear c14b0
        try clear c15
        try clear c15b0
        try clear c16
        try clear c16b0
        try clear c16b1
        try clear hx125_0
        try clear p125
        try clear q125
        obtain ⟨kq, x38_6, rfl, HA, HJ6, HB⟩ := hcut
        cases kq with
        | zero => exact absurd HA.out (by simp [ref_name.j0])
        | succ kj6 =>
          have H := HA.out
          clear HA
          simp only [ref_name.j0] at H
          by_cases c17 : x38_6 = true
          · subst c17
            have H1 : (some (t124, t123)) = some (r1, r2) := by rw [if_pos rfl] at H; exact H
            clear H
            have H := H1
            clear H1
            simp only [Option.some.injEq, Prod.mk.injEq] at H
            obtain ⟨rfl, rfl⟩ := H
            go_wp2
            go_ret2
            exact ⟨by first | rfl | (simp [errW_none, errW_some] <;> rfl) | (simp only [← hji3]; first | rfl | (simp [errW_none, errW_some] <;> rfl)) | (simp [*, errW_none, errW_some] <;> rfl), by repeat (first | (with_reducible first | exact HB.out | apply below_alloc | apply pw_below_drewN | apply below_drew1) | exact HB.out)⟩
          · replace c17 := Bool.eq_false_iff.mpr c17
            subst c17
            have H1 : (if 0 ≤ t123 then (if t123 < (l0.length : Int) then (if (wrap32 (rd l0 t123)) = 61 then (some ((⟨#[]⟩ : ByteArray), 0)) else ((class_Letter.f (wrap32 (rd l0 t123))).bind fun t127 => (if t127 = true then (some ((⟨#[]⟩ : ByteArray), 0)) else ((class_Digit.f (wrap32 (rd l0 t123))).bind fun t128 => (if t128 = true then (some ((⟨#[]⟩ : ByteArray), 0)) else (some (t124, t123))))))) else (none)) else (none)) = some (r1, r2) := by rw [if_neg (show ¬ (false = true) by decide)] at H; exact H
            clear H
            have H := H1
            clear H1
            by_cases c18 : 0 ≤ t123
            · rw [if_pos c18] at H
              have c18b0 : decide (0 ≤ t123) = true := decide_eq_true c18
              clear c18
              by_cases c19 : t123 < (l0.length : Int)
              · rw [if_pos c19] at H
                have c19b0 : decide (t123 < (l0.length : Int)) = true := decide_eq_true c19
                clear c19
                by_cases c20 : (wrap32 (rd l0 t123)) = 61
                · rw [if_pos c20] at H
                  have c20b0 : ((wrap32 (rd l0 t123)) == 61) = true := beq_iff_eq.mpr c20
                  have c20b1 : ((wrap32 (rd l0 t123)) != 61) = false := bne_eq_false_iff_eq.mpr c20
                  clear c20
                  simp only [Option.some.injEq, Prod.mk.injEq] at H
                  obtain ⟨rfl, rfl⟩ := H
                  have p126 : 0 ≤ (t123 : Int) := of_decide_eq_true (by first | (with_reducible assumption) | assumption)
                  have q126 : t123 < (l0.length : Int) := of_decide_eq_true (by first | (with_reducible assumption) | assumption)
                  obtain ⟨ad126, e126, hx126_0⟩ := Kd.at_int HR0.out t123 p126 q126
                  cases e126
                  replace hx126_0 := (HB.out.cell (World.block_lt_of_cell? w _ hx126_0)).trans hx126_0
                  replace p126 := eq_true p126
                  replace q126 := eq_true q126
                  go_wp2
                  go_ret2
                  exact ⟨by first | rfl | (simp [errW_none, errW_some] <;> rfl) | (simp only [← hji3]; first | rfl | (simp [errW_none, errW_some] <;> rfl)) | (simp [*, errW_none, errW_some] <;> rfl), by repeat (first | (with_reducible first | exact HB.out | apply below_alloc | apply pw_below_drewN | apply below_drew1) | exact HB.out)⟩
                · rw [if_neg c20] at H
                  have c20b0 : ((wrap32 (rd l0 t123)) == 61) = false := beq_eq_false_iff_ne.mpr c20
                  have c20b1 : ((wrap32 (rd l0 t123)) != 61) = true := bne_iff_ne.mpr c20
                  replace H := Option.bind_eq_some_iff.mp H
                  obtain ⟨t127, A210, H⟩ := H
                  replace H : (if t127 = true then (some ((⟨#[]⟩ : ByteArray), 0)) else ((class_Digit.f (wrap32 (rd l0 t123))).bind fun t128 => (if t128 = true then (some ((⟨#[]⟩ : ByteArray), 0)) else (some (t124, t123))))) = some (r1, r2) := H
                  have A21 := Aside0.mk A210
                  clear A210
                  by_cases c22 : t127 = true
                  · subst c22
                    have H1 : (some ((⟨#[]⟩ : ByteArray), 0)) = some (r1, r2) := by rw [if_pos rfl] at H; exact H
                    clear H
                    have H := H1
                    clear H1
                    simp only [Option.some.injEq, Prod.mk.injEq] at H
                    obtain ⟨rfl, rfl⟩ := H
                    have p126 : 0 ≤ (t123 : Int) := of_decide_eq_true (by first | (with_reducible assumption) | assumption)
                    have q126 : t123 < (l0.length : Int) := of_decide_eq_true (by first | (with_reducible assumption) | assumption)
                    obtain ⟨ad126, e126, hx126_0⟩ := Kd.at_int HR0.out t123 p126 q126
                    cases e126
                    replace hx126_0 := (HB.out.cell (World.block_lt_of_cell? w _ hx126_0)).trans hx126_0
                    replace p126 := eq_true p126
                    replace q126 := eq_true q126
                    go_wp2_with (first | (go_at_call 50; (with_reducible refine (class_Letter.calls (wrap32 (rd l0 t123)) true _ A21.out).mono ?_); rintro e w' ⟨rfl, ⟨nd, rfl⟩⟩))
                    go_ret2
                    exact ⟨by first | rfl | (simp [errW_none, errW_some] <;> rfl) | (simp only [← hji3]; first | rfl | (simp [errW_none, errW_some] <;> rfl)) | (simp [*, errW_none, errW_some] <;> rfl), by repeat (first | (with_reducible first | exact HB.out | apply below_alloc | apply pw_below_drewN | apply below_drew1) | exact HB.out)⟩
                  · replace c22 := Bool.eq_false_iff.mpr c22
                    subst c22
                    have H1 : ((class_Digit.f (wrap32 (rd l0 t123))).bind fun t128 => (if t128 = true then (some ((⟨#[]⟩ : ByteArray), 0)) else (some (t124, t123)))) = some (r1, r2) := by rw [if_neg (show ¬ (false = true) by decide)] at H; exact H
                    clear H
                    have H := H1
                    clear H1
                    replace H := Option.bind_eq_some_iff.mp H
                    obtain ⟨t128, A230, H⟩ := H
                    replace H : (if t128 = true then (some ((⟨#[]⟩ : ByteArray), 0)) else (some (t124, t123))) = some (r1, r2) := H
                    have A23 := Aside0.mk A230
                    clear A230
                    by_cases c24 : t128 = true
                    · subst c24
                      have H1 : (some ((⟨#[]⟩ : ByteArray), 0)) = some (r1, r2) := by rw [if_pos rfl] at H; exact H
                      clear H
                      have H := H1
                      clear H1
                      simp only [Option.some.injEq, Prod.mk.injEq] at H
                      obtain ⟨rfl, rfl⟩ := H
                      have p126 : 0 ≤ (t123 : Int) := of_decide_eq_true (by first | (with_reducible assumption) | assumption)
                      have q126 : t123 < (l0.length : Int) := of_decide_eq_true (by first | (with_reducible assumption) | assumption)
                      obtain ⟨ad126, e126, hx126_0⟩ := Kd.at_int HR0.out t123 p126 q126
                      cases e126
                      replace hx126_0 := (HB.out.cell (World.block_lt_of_cell? w _ hx126_0)).trans hx126_0
                      replace p126 := eq_true p126
                      replace q126 := eq_true q126
                      go_wp2_with (first | (go_at_call 50; (with_reducible refine (class_Letter.calls (wrap32 (rd l0 t123)) false _ A21.out).mono ?_); rintro e w' ⟨rfl, ⟨nd, rfl⟩⟩) | (go_at_call 51; (with_reducible refine (class_Digit.calls (wrap32 (rd l0 t123)) true _ A23.out).mono ?_); rintro e w' ⟨rfl, ⟨nd, rfl⟩⟩))
                      go_ret2
                      exact ⟨by first | rfl | (simp [errW_none, errW_some] <;> rfl) | (simp only [← hji3]; first | rfl | (simp [errW_none, errW_some] <;> rfl)) | (simp [*, errW_none, errW_some] <;> rfl), by repeat (first | (with_reducible first | exact HB.out | apply below_alloc | apply pw_below_drewN | apply below_drew1) | exact HB.out)⟩
                    · replace c24 := Bool.eq_false_iff.mpr c24
                      subst c24
                      have H1 : (some (t124, t123)) = some (r1, r2) := by rw [if_neg (show ¬ (false = true) by decide)] at H; exact H
                      clear H
                      have H := H1
                      clear H1
                      simp only [Option.some.injEq, Prod.mk.injEq] at H
                      obtain ⟨rfl, rfl⟩ := H
                      have p126 : 0 ≤ (t123 : Int) := of_decide_eq_true (by first | (with_reducible assumption) | assumption)
                      have q126 : t123 < (l0.length : Int) := of_decide_eq_true (by first | (with_reducible assumption) | assumption)
                      obtain ⟨ad126, e126, hx126_0⟩ := Kd.at_int HR0.out t123 p126 q126
                      cases e126
                      replace hx126_0 := (HB.out.cell (World.block_lt_of_cell? w _ hx126_0)).trans hx126_0
                      replace p126 := eq_true p126
                      replace q126 := eq_true q126
                      go_wp2_with (first | (go_at_call 50; (with_reducible refine (class_Letter.calls (wrap32 (rd l0 t123)) false _ A21.out).mono ?_); rintro e w' ⟨rfl, ⟨nd, rfl⟩⟩) | (go_at_call 51; (with_reducible refine (class_Digit.calls (wrap32 (rd l0 t123)) false _ A23.out).mono ?_); rintro e w' ⟨rfl, ⟨nd, rfl⟩⟩))
                      go_ret2
                      exact ⟨by first | rfl | (simp [errW_none, errW_some] <;> rfl) | (simp only [← hji3]; first | rfl | (simp [errW_none, errW_some] <;> rfl)) | (simp [*, errW_none, errW_some] <;> rfl), by repeat (first | (with_reducible first | exact HB.out | apply below_alloc | apply pw_below_drewN | apply below_drew1) | exact HB.out)⟩
              · rw [if_neg c19] at H
                exact absurd H (by simp)
            · rw [if_neg c18] at H
              exact absurd H (by simp)
    · rw [if_neg c5] at H
      exact absurd H (by simp)
  · rw [if_neg c4] at H
    exact absurd H (by simp)

end Go.Proofs.YtnmjocoopbfpnaaDoor.PRefA
