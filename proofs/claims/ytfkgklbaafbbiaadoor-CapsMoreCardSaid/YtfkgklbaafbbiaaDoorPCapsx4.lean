-- Laid by a program of this session (tools/patch_print.py) out of the translation. Not trusted: Lean checks it.
import Derived.Test.YtfkgklbaafbbiaaDoorPCapsx0
import Derived.Test.YtfkgklbaafbbiaaDoorPCapsx1
import Derived.Test.YtfkgklbaafbbiaaDoorPCapsx2
namespace Go.Proofs.YtfkgklbaafbbiaaDoor.PCaps
open Go.RowKit Go.Proofs.YtfkgklbaafbbiaaDoorW.PrintWords Go.Proofs.YtfkgklbaafbbiaaDoorW.PrintLast Go.Proofs.YtfkgklbaafbbiaaDoorW.PrintMore
attribute [local go_sem] max2_int min2_int max_two min_two max_three min_three max_four min_four   -- for this text's walks alone
set_option linter.unusedVariables false
set_option linter.unusedSimpArgs false

/-! ### decanterlaw23_CapsMore: function 4 -/
mutual
def decanterlaw23_CapsMore.l0 : Nat → Int → List Int → Int → Int → Int → Int → Int → Int → Int → Int → Int → Int → Int → ByteArray → List (S91) → ByteArray → Int → Int → Option (Bool)
  | 0, _, _, _, _, _, _, _, _, _, _, _, _, _, _, _, _, _, _ => none
  | k + 1, x3, x25, x26, x27, x145000, x145001, x145002, x145003, x145004, x146000, x146001, x146002, x147000, x147001, x147002, x147003, x147004, x147005 => if x27 < x26 then (if 0 ≤ x27 then (if x27 < (x25.length : Int) then (if (rd x25 x27) < 0 then ((decanterlaw23_speaks.f).bind fun t151 => (some t151)) else (if (rd x25 x27) > 549755813888 then ((decanterlaw23_speaks.f).bind fun t152 => (some t152)) else (decanterlaw23_CapsMore.l0 k x3 x25 x26 (wrap64 (x27 + 1)) x145000 x145001 x145002 x145003 x145004 x146000 x146001 x146002 x147000 x147001 x147002 x147003 x147004 x147005))) else (none)) else (none)) else ((decanterlaw23_speaks.f).bind fun t153 => (if t153 = true then ((decanterref23_Check.f k x145000 x145001 x145002 x145003 x145004).bind fun t154 => (if t154 = 0 then (if x147005 < x147004 then (decanterlaw23_CapsMore.j1 k x3 true x145000 x145001 x145002 x145003 x145004 x146000 x146001 x146002 x147000 x147001 x147002 x147003 x147004 x147005) else (if (x147002.length : Int) > 100 then (decanterlaw23_CapsMore.j1 k x3 true x145000 x145001 x145002 x145003 x145004 x146000 x146001 x146002 x147000 x147001 x147002 x147003 x147004 x147005) else (decanterlaw23_CapsMore.j1 k x3 (decide (x145000 > 1099511627776)) x145000 x145001 x145002 x145003 x145004 x146000 x146001 x146002 x147000 x147001 x147002 x147003 x147004 x147005))) else (decanterlaw23_CapsMore.j1 k x3 true x145000 x145001 x145002 x145003 x145004 x146000 x146001 x146002 x147000 x147001 x147002 x147003 x147004 x147005))) else (decanterlaw23_CapsMore.j1 k x3 true x145000 x145001 x145002 x145003 x145004 x146000 x146001 x146002 x147000 x147001 x147002 x147003 x147004 x147005)))
def decanterlaw23_CapsMore.j1 : Nat → Int → Bool → Int → Int → Int → Int → Int → Int → Int → Int → Int → ByteArray → List (S91) → ByteArray → Int → Int → Option (Bool)
  | 0, _, _, _, _, _, _, _, _, _, _, _, _, _, _, _, _ => none
  | k + 1, x3, x63, x145000, x145001, x145002, x145003, x145004, x146000, x146001, x146002, x147000, x147001, x147002, x147003, x147004, x147005 => if x63 = true then ((decanterlaw23_speaks.f).bind fun t155 => (some t155)) else ((decanterlaw16_Of.f k x147000 x147001 x147002 x147003 x147004 x147005).bind fun bt156 => ((caps_Over.f x145000 x145001 x145002 x145003 x145004 x146000 x146001 x146002 bt156.1 bt156.2.1 bt156.2.2.1 bt156.2.2.2.1 bt156.2.2.2.2.1 bt156.2.2.2.2.2).bind fun t166 => (if t166 = 0 then ((caps_Over.f x145000 (wrap64 (x145001 + (wrap64 (x3)))) (wrap64 (x145002 + (wrap64 (x3)))) (wrap64 (x145003 + (wrap64 (x3)))) (wrap64 (x145004 + (wrap64 (x3)))) x146000 x146001 x146002 bt156.1 bt156.2.1 bt156.2.2.1 bt156.2.2.2.1 bt156.2.2.2.2.1 bt156.2.2.2.2.2).bind fun t167 => (decanterlaw23_CapsMore.j2 k (wrap64 (x3)) (t167 != 0) x146000 x146001 x146002 bt156.1 bt156.2.1 bt156.2.2.1 bt156.2.2.2.1 bt156.2.2.2.2.1 bt156.2.2.2.2.2)) else (decanterlaw23_CapsMore.j2 k (wrap64 (x3)) false x146000 x146001 x146002 bt156.1 bt156.2.1 bt156.2.2.1 bt156.2.2.2.1 bt156.2.2.2.2.1 bt156.2.2.2.2.2))))
def decanterlaw23_CapsMore.j2 : Nat → Int → Bool → Int → Int → Int → Int → ByteArray → List (S92) → ByteArray → Int → Int → Option (Bool)
  | 0, _, _, _, _, _, _, _, _, _, _, _ => none
  | k + 1, x12, x99, x146000, x146001, x146002, x165000, x165001, x165002, x165003, x165004, x165005 => if x99 = true then (some false) else ((caps_Price.f (wrap64 (x146000 + x12)) x146001 x146002 x165000 x165001 x165002 x165003 x165004 x165005).bind fun t169 => ((caps_Price.f x146000 x146001 x146002 x165000 x165001 x165002 x165003 x165004 x165005).bind fun t170 => (some (t169 == (wrap64 (t170 + x12))))))
end
def decanterlaw23_CapsMore.f (k : Nat) (a0_0 : Int) (a0_1 : Int) (a0_2 : Int) (a0_3 : Int) (a0_4 : Int) (a1_0 : Int) (a1_1 : Int) (a1_2 : Int) (a2_0 : Int) (a2_1 : ByteArray) (l2_2 : List (S91)) (a2_3 : ByteArray) (a2_4 : Int) (a2_5 : Int) (a3 : Int) : Option (Bool) := (some (([a1_0, a1_1, a1_2, a2_4, a2_5] : List Int) : List Int)).bind fun y147 => (decanterlaw23_CapsMore.l0 k a3 y147 (y147.length : Int) 0 a0_0 a0_1 a0_2 a0_3 a0_4 a1_0 a1_1 a1_2 a2_0 a2_1 l2_2 a2_3 a2_4 a2_5)
theorem decanterlaw23_CapsMore.mono_l : ∀ k, (∀ y0 y1 y2 y3 y4 y5 y6 y7 y8 y9 y10 y11 y12 y13 y14 y15 y16 y17, LeO (decanterlaw23_CapsMore.l0 k y0 y1 y2 y3 y4 y5 y6 y7 y8 y9 y10 y11 y12 y13 y14 y15 y16 y17) (decanterlaw23_CapsMore.l0 (k + 1) y0 y1 y2 y3 y4 y5 y6 y7 y8 y9 y10 y11 y12 y13 y14 y15 y16 y17)) ∧ (∀ y0 y1 y2 y3 y4 y5 y6 y7 y8 y9 y10 y11 y12 y13 y14 y15, LeO (decanterlaw23_CapsMore.j1 k y0 y1 y2 y3 y4 y5 y6 y7 y8 y9 y10 y11 y12 y13 y14 y15) (decanterlaw23_CapsMore.j1 (k + 1) y0 y1 y2 y3 y4 y5 y6 y7 y8 y9 y10 y11 y12 y13 y14 y15)) ∧ (∀ y0 y1 y2 y3 y4 y5 y6 y7 y8 y9 y10, LeO (decanterlaw23_CapsMore.j2 k y0 y1 y2 y3 y4 y5 y6 y7 y8 y9 y10) (decanterlaw23_CapsMore.j2 (k + 1) y0 y1 y2 y3 y4 y5 y6 y7 y8 y9 y10))
  | 0 => ⟨fun _ _ _ _ _ _ _ _ _ _ _ _ _ _ _ _ _ _ r h => by simp [decanterlaw23_CapsMore.l0] at h, fun _ _ _ _ _ _ _ _ _ _ _ _ _ _ _ _ r h => by simp [decanterlaw23_CapsMore.j1] at h, fun _ _ _ _ _ _ _ _ _ _ _ r h => by simp [decanterlaw23_CapsMore.j2] at h⟩
  | k + 1 => by
    obtain ⟨ih0, ih1, ih2⟩ := decanterlaw23_CapsMore.mono_l k
    refine ⟨?_, ?_, ?_⟩
    · intro y0 y1 y2 y3 y4 y5 y6 y7 y8 y9 y10 y11 y12 y13 y14 y15 y16 y17
      unfold decanterlaw23_CapsMore.l0
      repeat' first
      | (with_reducible exact ih0 _ _ _ _ _ _ _ _ _ _ _ _ _ _ _ _ _ _)
      | (with_reducible exact ih1 _ _ _ _ _ _ _ _ _ _ _ _ _ _ _ _)
      | (with_reducible exact ih2 _ _ _ _ _ _ _ _ _ _ _)
      | (with_reducible exact decanterlaw16_Of.mono _ _ _ _ _ _ _)
      | (with_reducible exact decanterref23_Check.mono _ _ _ _ _ _)
      | (with_reducible exact LeO.refl _)
      | (with_reducible exact LeO.none _)
      | (with_reducible refine LeO.ite ?_ ?_)
      | (with_reducible refine LeO.bind ?_ (fun _ => ?_))
      | exact ih0 _ _ _ _ _ _ _ _ _ _ _ _ _ _ _ _ _ _
      | exact ih1 _ _ _ _ _ _ _ _ _ _ _ _ _ _ _ _
      | exact ih2 _ _ _ _ _ _ _ _ _ _ _
      | exact decanterlaw16_Of.mono _ _ _ _ _ _ _
      | exact decanterref23_Check.mono _ _ _ _ _ _
      | exact LeO.none _
      | refine LeO.ite ?_ ?_
      | refine LeO.bind ?_ (fun _ => ?_)
    · intro y0 y1 y2 y3 y4 y5 y6 y7 y8 y9 y10 y11 y12 y13 y14 y15
      unfold decanterlaw23_CapsMore.j1
      repeat' first
      | (with_reducible exact ih0 _ _ _ _ _ _ _ _ _ _ _ _ _ _ _ _ _ _)
      | (with_reducible exact ih1 _ _ _ _ _ _ _ _ _ _ _ _ _ _ _ _)
      | (with_reducible exact ih2 _ _ _ _ _ _ _ _ _ _ _)
      | (with_reducible exact decanterlaw16_Of.mono _ _ _ _ _ _ _)
      | (with_reducible exact decanterref23_Check.mono _ _ _ _ _ _)
      | (with_reducible exact LeO.refl _)
      | (with_reducible exact LeO.none _)
      | (with_reducible refine LeO.ite ?_ ?_)
      | (with_reducible refine LeO.bind ?_ (fun _ => ?_))
      | exact ih0 _ _ _ _ _ _ _ _ _ _ _ _ _ _ _ _ _ _
      | exact ih1 _ _ _ _ _ _ _ _ _ _ _ _ _ _ _ _
      | exact ih2 _ _ _ _ _ _ _ _ _ _ _
      | exact decanterlaw16_Of.mono _ _ _ _ _ _ _
      | exact decanterref23_Check.mono _ _ _ _ _ _
      | exact LeO.none _
      | refine LeO.ite ?_ ?_
      | refine LeO.bind ?_ (fun _ => ?_)
    · intro y0 y1 y2 y3 y4 y5 y6 y7 y8 y9 y10
      unfold decanterlaw23_CapsMore.j2
      repeat' first
      | (with_reducible exact ih0 _ _ _ _ _ _ _ _ _ _ _ _ _ _ _ _ _ _)
      | (with_reducible exact ih1 _ _ _ _ _ _ _ _ _ _ _ _ _ _ _ _)
      | (with_reducible exact ih2 _ _ _ _ _ _ _ _ _ _ _)
      | (with_reducible exact decanterlaw16_Of.mono _ _ _ _ _ _ _)
      | (with_reducible exact decanterref23_Check.mono _ _ _ _ _ _)
      | (with_reducible exact LeO.refl _)
      | (with_reducible exact LeO.none _)
      | (with_reducible refine LeO.ite ?_ ?_)
      | (with_reducible refine LeO.bind ?_ (fun _ => ?_))
      | exact ih0 _ _ _ _ _ _ _ _ _ _ _ _ _ _ _ _ _ _
      | exact ih1 _ _ _ _ _ _ _ _ _ _ _ _ _ _ _ _
      | exact ih2 _ _ _ _ _ _ _ _ _ _ _
      | exact decanterlaw16_Of.mono _ _ _ _ _ _ _
      | exact decanterref23_Check.mono _ _ _ _ _ _
      | exact LeO.none _
      | refine LeO.ite ?_ ?_
      | refine LeO.bind ?_ (fun _ => ?_)
theorem decanterlaw23_CapsMore.mono : ∀ a0 a1 a2 a3 a4 a5 a6 a7 a8 a9 a10 a11 a12 a13 a14 k, LeO (decanterlaw23_CapsMore.f k a0 a1 a2 a3 a4 a5 a6 a7 a8 a9 a10 a11 a12 a13 a14) (decanterlaw23_CapsMore.f (k + 1) a0 a1 a2 a3 a4 a5 a6 a7 a8 a9 a10 a11 a12 a13 a14) := by
  intro a0 a1 a2 a3 a4 a5 a6 a7 a8 a9 a10 a11 a12 a13 a14 k
  obtain ⟨ih0, ih1, ih2⟩ := decanterlaw23_CapsMore.mono_l k
  unfold decanterlaw23_CapsMore.f
  repeat' first
      | (with_reducible exact ih0 _ _ _ _ _ _ _ _ _ _ _ _ _ _ _ _ _ _)
      | (with_reducible exact ih1 _ _ _ _ _ _ _ _ _ _ _ _ _ _ _ _)
      | (with_reducible exact ih2 _ _ _ _ _ _ _ _ _ _ _)
      | (with_reducible exact decanterlaw16_Of.mono _ _ _ _ _ _ _)
      | (with_reducible exact decanterref23_Check.mono _ _ _ _ _ _)
      | (with_reducible exact LeO.refl _)
      | (with_reducible exact LeO.none _)
      | (with_reducible refine LeO.ite ?_ ?_)
      | (with_reducible refine LeO.bind ?_ (fun _ => ?_))
      | exact ih0 _ _ _ _ _ _ _ _ _ _ _ _ _ _ _ _ _ _
      | exact ih1 _ _ _ _ _ _ _ _ _ _ _ _ _ _ _ _
      | exact ih2 _ _ _ _ _ _ _ _ _ _ _
      | exact decanterlaw16_Of.mono _ _ _ _ _ _ _
      | exact decanterref23_Check.mono _ _ _ _ _ _
      | exact LeO.none _
      | refine LeO.ite ?_ ?_
      | refine LeO.bind ?_ (fun _ => ?_)
def decanterlaw23_CapsMore.T15 : Bool × List (List Nat × List Nat) := (true, [([], []), ([], []), ([0, 1], [0, 1]), ([], []), ([], []), ([3, 4, 2], [3, 4]), ([], []), ([5, 6], [5, 6]), ([2, 7], [2, 7]), ([8, 5, 0, 1, 2, 3, 4, 5, 6, 7, 8], [8])])
def decanterlaw23_CapsMore.B15 : List Nat := [0, 0, 3, 0, 0, 31, 0, 127, 255, 511]
theorem decanterlaw23_CapsMore.tab15 : rtab .any (opsOf Tryd.f4 15) = decanterlaw23_CapsMore.T15 := by kernel_rfl
theorem decanterlaw23_CapsMore.bits15 : waitsOk decanterlaw23_CapsMore.T15.2 decanterlaw23_CapsMore.B15 = true := by kernel_rfl
set_option maxHeartbeats 8000000 in
set_option maxRecDepth 100000 in
theorem decanterlaw23_CapsMore.calls (k : Nat) (a0_0 : Int) (a0_1 : Int) (a0_2 : Int) (a0_3 : Int) (a0_4 : Int) (a1_0 : Int) (a1_1 : Int) (a1_2 : Int) (a2_0 : Int) (a2_1 : ByteArray) (A2_2 : Option Addr) (c2_2 : Nat) (l2_2 : List (S91)) (a2_3 : ByteArray) (a2_4 : Int) (a2_5 : Int) (a3 : Int) (r : Bool) (w : World) (hW : Wok w) (hr2_2 : Kd.C k91 w A2_2 l2_2.length l2_2) (hc2_2 : l2_2.length ≤ c2_2) (h : decanterlaw23_CapsMore.f k a0_0 a0_1 a0_2 a0_3 a0_4 a1_0 a1_1 a1_2 a2_0 a2_1 l2_2 a2_3 a2_4 a2_5 a3 = some r) :
    Calls Tryd.prog 4 #[.agg #[.int .i64 a0_0, .int .i64 a0_1, .int .i64 a0_2, .int .i64 a0_3, .int .i64 a0_4], .agg #[.int .i64 a1_0, .int .i64 a1_1, .int .i64 a1_2], .agg #[.int .i64 a2_0, .string a2_1, .slice A2_2 l2_2.length c2_2, .string a2_3, .int .i64 a2_4, .int .i64 a2_5], .int .u8 a3] w fun e w' => e = .returned (.bool r) ∧ Below w.heap.size w w' := by
  have hu23 := Tryd.underlying23
  have hu25 := Tryd.underlying25
  have hu28 := Tryd.underlying28
  have hu37 := Tryd.underlying37
  have hu32 := Tryd.underlying32
  have hu40 := Tryd.underlying40
  have HR2_2 := Aside0.mk hr2_2
  have HC2_2 := Aside0.mk hc2_2
  clear hr2_2 hc2_2
  have HB := Aside0.mk (Below.refl w.heap.size w)
  have H : ((some (([a1_0, a1_1, a1_2, a2_4, a2_5] : List Int) : List Int)).bind fun y147 => (decanterlaw23_CapsMore.l0 k a3 y147 (y147.length : Int) 0 a0_0 a0_1 a0_2 a0_3 a0_4 a1_0 a1_1 a1_2 a2_0 a2_1 l2_2 a2_3 a2_4 a2_5)) = some r := h
  clear h
  obtain ⟨y147, hy147⟩ : ∃ y_ : List Int, y_ = (([a1_0, a1_1, a1_2, a2_4, a2_5] : List Int)) := ⟨_, rfl⟩
  replace H : (decanterlaw23_CapsMore.l0 k a3 y147 (y147.length : Int) 0 a0_0 a0_1 a0_2 a0_3 a0_4 a1_0 a1_1 a1_2 a2_0 a2_1 l2_2 a2_3 a2_4 a2_5) = some r := by first | (rw [hy147]; with_reducible exact H) | (have H2_ := (Option.bind_some _ _).symm.trans H; rw [hy147]; with_reducible exact H2_) | (have H2_ := (Option.bind_some _ _).symm.trans H; with_reducible exact H2_) | with_reducible exact H | (rw [hy147]; exact H) | exact H
  have Ny147 := Aside0.mk hy147
  clear hy147
  have H' := Aside0.mk H
  clear H
  go_enter Tryd.func4, Tryd.ntmps4
  go_wp2_with (first | ((with_reducible refine gate_dst (N := 4) rfl ?_); (try (refine gate_guard (by rfl) ?_; dsimp only)); refine box_event ?hg (N := 4) ?hd (cs := #[.int .i64 a0_0, .int .i64 a0_1, .int .i64 a0_2, .int .i64 a0_3, .int .i64 a0_4]) (t := 23) ?hr ?_; (case hd => rfl); (case hg => rfl); (case hr => first | (go_simp; done) | (go_simp; rfl)); intro gb144 hg w5 hbox hb; have n0_ := Aside0.mk (below_step (by repeat (first | (with_reducible first | exact HB.out | apply below_alloc | apply pw_below_drewN | apply below_drew1) | exact HB.out)) hb); have n1_ := Aside0.mk (hbox); have n2_ := Aside0.mk ((by rw [hg]; exact (below_size (by repeat (first | (with_reducible first | exact HB.out | apply below_alloc | apply pw_below_drewN | apply below_drew1) | exact HB.out))) : w.heap.size ≤ gb144)); have n3_ := Aside0.mk ((by rw [hg]; exact (below_size (by repeat (first | (with_reducible first | exact HB.out | apply below_alloc | apply pw_below_drewN | apply below_drew1) | exact HB.out))) : w.heap.size ≤ gb144)); clear HB; have HB := n0_; have BK144 := n1_; have GW144 := n2_; have GE144 := n3_; clear n0_ n1_ n2_ n3_; clear hb hbox hg) | ((with_reducible refine gate_dst (N := 5) rfl ?_); (try (refine gate_guard (by rfl) ?_; dsimp only)); refine box_event ?hg (N := 5) ?hd (cs := #[.int .i64 a1_0, .int .i64 a1_1, .int .i64 a1_2]) (t := 25) ?hr ?_; (case hd => rfl); (case hg => rfl); (case hr => first | (go_simp; done) | (go_simp; rfl)); intro gb145 hg w6 hbox hb; have n0_ := Aside0.mk (blk_below (g := gb144) (o := .cells #[.int .i64 a0_0, .int .i64 a0_1, .int .i64 a0_2, .int .i64 a0_3, .int .i64 a0_4] 23 (0, 0)) (by (with_reducible repeat (first | refine blk_drewN ?_ _ | refine blk_drew ?_ | refine blk_alloc ?_ _)); exact BK144.out) hb); have n1_ := Aside0.mk (below_step (by repeat (first | (with_reducible first | exact HB.out | apply below_alloc | apply pw_below_drewN | apply below_drew1 | refine below_set ?_ GE144.out) | exact HB.out)) hb); have n2_ := Aside0.mk (hbox); have n3_ := Aside0.mk ((by rw [hg]; exact (below_size (by repeat (first | (with_reducible first | exact HB.out | apply below_alloc | apply pw_below_drewN | apply below_drew1 | refine below_set ?_ GE144.out) | exact HB.out))) : w.heap.size ≤ gb145)); have n4_ := Aside0.mk ((by rw [hg]; exact (below_size (by repeat (first | (with_reducible first | exact HB.out | apply below_alloc | apply pw_below_drewN | apply below_drew1 | refine below_set ?_ GE144.out) | exact HB.out))) : w.heap.size ≤ gb145)); have n5_ := Aside0.mk ((by rw [hg]; exact Nat.ne_of_lt (blk_lt (g := gb144) (o := .cells #[.int .i64 a0_0, .int .i64 a0_1, .int .i64 a0_2, .int .i64 a0_3, .int .i64 a0_4] 23 (0, 0)) (by (with_reducible repeat (first | refine blk_drewN ?_ _ | refine blk_drew ?_ | refine blk_alloc ?_ _)); exact BK144.out)) : gb144 ≠ gb145)); have n6_ := Aside0.mk ((by rw [hg]; exact Nat.ne_of_gt (blk_lt (g := gb144) (o := .cells #[.int .i64 a0_0, .int .i64 a0_1, .int .i64 a0_2, .int .i64 a0_3, .int .i64 a0_4] 23 (0, 0)) (by (with_reducible repeat (first | refine blk_drewN ?_ _ | refine blk_drew ?_ | refine blk_alloc ?_ _)); exact BK144.out)) : gb145 ≠ gb144)); clear BK144; clear HB; have BK144 := n0_; have HB := n1_; have BK145 := n2_; have GW145 := n3_; have GE145 := n4_; have NB144_145 := n5_; have NB145_144 := n6_; clear n0_ n1_ n2_ n3_ n4_ n5_ n6_; clear hb hbox hg) | ((with_reducible refine gate_dst (N := 6) rfl ?_); (try (refine gate_guard (by rfl) ?_; dsimp only)); refine box_event ?hg (N := 6) ?hd (cs := #[.int .i64 a2_0, .string a2_1, .slice A2_2 l2_2.length c2_2, .string a2_3, .int .i64 a2_4, .int .i64 a2_5]) (t := 28) ?hr ?_; (case hd => rfl); (case hg => rfl); (case hr => first | (go_simp; done) | (go_simp; rfl)); intro gb146 hg w7 hbox hb; have n0_ := Aside0.mk (blk_below (g := gb144) (o := .cells #[.int .i64 a0_0, .int .i64 a0_1, .int .i64 a0_2, .int .i64 a0_3, .int .i64 a0_4] 23 (0, 0)) (by (with_reducible repeat (first | refine blk_drewN ?_ _ | refine blk_drew ?_ | refine blk_alloc ?_ _)); exact BK144.out) hb); have n1_ := Aside0.mk (blk_below (g := gb145) (o := .cells #[.int .i64 a1_0, .int .i64 a1_1, .int .i64 a1_2] 25 (0, 0)) (by (with_reducible repeat (first | refine blk_drewN ?_ _ | refine blk_drew ?_ | refine blk_alloc ?_ _)); exact BK145.out) hb); have n2_ := Aside0.mk (below_step (by repeat (first | (with_reducible first | exact HB.out | apply below_alloc | apply pw_below_drewN | apply below_drew1 | refine below_set ?_ GE144.out | refine below_set ?_ GE145.out) | exact HB.out)) hb); have n3_ := Aside0.mk (hbox); have n4_ := Aside0.mk ((by rw [hg]; exact (below_size (by repeat (first | (with_reducible first | exact HB.out | apply below_alloc | apply pw_below_drewN | apply below_drew1 | refine below_set ?_ GE144.out | refine below_set ?_ GE145.out) | exact HB.out))) : w.heap.size ≤ gb146)); have n5_ := Aside0.mk ((by rw [hg]; exact (below_size (by repeat (first | (with_reducible first | exact HB.out | apply below_alloc | apply pw_below_drewN | apply below_drew1 | refine below_set ?_ GE144.out | refine below_set ?_ GE145.out) | exact HB.out))) : w.heap.size ≤ gb146)); have n6_ := Aside0.mk ((by rw [hg]; exact Nat.ne_of_lt (blk_lt (g := gb144) (o := .cells #[.int .i64 a0_0, .int .i64 a0_1, .int .i64 a0_2, .int .i64 a0_3, .int .i64 a0_4] 23 (0, 0)) (by (with_reducible repeat (first | refine blk_drewN ?_ _ | refine blk_drew ?_ | refine blk_alloc ?_ _)); exact BK144.out)) : gb144 ≠ gb146)); have n7_ := Aside0.mk ((by rw [hg]; exact Nat.ne_of_gt (blk_lt (g := gb144) (o := .cells #[.int .i64 a0_0, .int .i64 a0_1, .int .i64 a0_2, .int .i64 a0_3, .int .i64 a0_4] 23 (0, 0)) (by (with_reducible repeat (first | refine blk_drewN ?_ _ | refine blk_drew ?_ | refine blk_alloc ?_ _)); exact BK144.out)) : gb146 ≠ gb144)); have n8_ := Aside0.mk ((by rw [hg]; exact Nat.ne_of_lt (blk_lt (g := gb145) (o := .cells #[.int .i64 a1_0, .int .i64 a1_1, .int .i64 a1_2] 25 (0, 0)) (by (with_reducible repeat (first | refine blk_drewN ?_ _ | refine blk_drew ?_ | refine blk_alloc ?_ _)); exact BK145.out)) : gb145 ≠ gb146)); have n9_ := Aside0.mk ((by rw [hg]; exact Nat.ne_of_gt (blk_lt (g := gb145) (o := .cells #[.int .i64 a1_0, .int .i64 a1_1, .int .i64 a1_2] 25 (0, 0)) (by (with_reducible repeat (first | refine blk_drewN ?_ _ | refine blk_drew ?_ | refine blk_alloc ?_ _)); exact BK145.out)) : gb146 ≠ gb145)); clear BK144; clear BK145; clear HB; have BK144 := n0_; have BK145 := n1_; have HB := n2_; have BK146 := n3_; have GW146 := n4_; have GE146 := n5_; have NB144_146 := n6_; have NB146_144 := n7_; have NB145_146 := n8_; have NB146_145 := n9_; clear n0_ n1_ n2_ n3_ n4_ n5_ n6_ n7_ n8_ n9_; clear hb hbox hg; have hnb8 := NB145_144.out; have hnc8 := NB144_145.out; have hnb9 := NB145_146.out; have hnc9 := NB146_145.out; have hcz10_0 : w7.cell? ⟨gb145, 0, none⟩ = some (.int .i64 a1_0) := (blk_cell BK145.out 0).trans rfl; have hcz10_1 : w7.cell? ⟨gb145, 1, none⟩ = some (.int .i64 a1_1) := (blk_cell BK145.out 1).trans rfl; have hcz10_2 : w7.cell? ⟨gb145, 2, none⟩ = some (.int .i64 a1_2) := (blk_cell BK145.out 2).trans rfl; have hfz10_0 := blk_frozen BK145.out 0; have hfz10_1 := blk_frozen BK145.out 1; have hfz10_2 := blk_frozen BK145.out 2; have hnb11 := NB146_144.out; have hnc11 := NB144_146.out; have hcz12_0 : w7.cell? ⟨gb146, 0, none⟩ = some (.int .i64 a2_0) := (blk_cell BK146.out 0).trans rfl; have hcz12_1 : w7.cell? ⟨gb146, 1, none⟩ = some (.string a2_1) := (blk_cell BK146.out 1).trans rfl; have hcz12_2 : w7.cell? ⟨gb146, 2, none⟩ = some (.slice A2_2 l2_2.length c2_2) := (blk_cell BK146.out 2).trans rfl; have hcz12_3 : w7.cell? ⟨gb146, 3, none⟩ = some (.string a2_3) := (blk_cell BK146.out 3).trans rfl; have hcz12_4 : w7.cell? ⟨gb146, 4, none⟩ = some (.int .i64 a2_4) := (blk_cell BK146.out 4).trans rfl; have hcz12_5 : w7.cell? ⟨gb146, 5, none⟩ = some (.int .i64 a2_5) := (blk_cell BK146.out 5).trans rfl; have hfz12_0 := blk_frozen BK146.out 0; have hfz12_1 := blk_frozen BK146.out 1; have hfz12_2 := blk_frozen BK146.out 2; have hfz12_3 := blk_frozen BK146.out 3; have hfz12_4 := blk_frozen BK146.out 4; have hfz12_5 := blk_frozen BK146.out 5) | ((with_reducible refine gate_dst (N := 25) rfl ?_); (try (refine gate_guard (by rfl) ?_; dsimp only)); refine Kd.R_lit (Kd.int .i64) _ 3 ?hg (N := 25) ?hd (xs := ([a1_0, a1_1, a1_2, a2_4, a2_5] : List Int)) (inner := [.int .i64 a1_0, .int .i64 a1_1, .int .i64 a1_2, .int .i64 a2_4, .int .i64 a2_5]) (ok := fun _ => True) (okp := fun _ => True) ?hr ?hp (fun _ hk => hk) trivial (Below.refl _ _) (Nat.le_refl _) (by simp) ?_; (case hd => rfl); (case hg => rfl); (case hr => first | (go_simp; done) | (go_simp; rfl)); (case hp => exact (Reps.one (show Kd.M (Kd.int .i64) _ _ _ a1_0 [.int .i64 a1_0] from rfl) (Reps.one (show Kd.M (Kd.int .i64) _ _ _ a1_1 [.int .i64 a1_1] from rfl) (Reps.one (show Kd.M (Kd.int .i64) _ _ _ a1_2 [.int .i64 a1_2] from rfl) (Reps.one (show Kd.M (Kd.int .i64) _ _ _ a2_4 [.int .i64 a2_4] from rfl) (Reps.one (show Kd.M (Kd.int .i64) _ _ _ a2_5 [.int .i64 a2_5] from rfl) (Reps.none _ _))))))); intro v148 w13 ho14 hb hg_ hnew_; clear hg_ hnew_; (first | rw [← Ny147.out] at ho14 | (simp only [Int.reduceToNat] at ho14; rw [← Ny147.out] at ho14)); have n0_ := Aside0.mk (Kd.R_lower ho14 (below_size (by repeat (first | (with_reducible first | exact HB.out | apply below_alloc | apply pw_below_drewN | apply below_drew1 | refine below_set ?_ GE144.out | refine below_set ?_ GE145.out | refine below_set ?_ GE146.out) | exact HB.out)))); have n1_ := Aside0.mk (blk_below (g := gb144) (o := .cells #[.int .i64 a0_0, .int .i64 a0_1, .int .i64 a0_2, .int .i64 a0_3, .int .i64 a0_4] 23 (0, 0)) (by (with_reducible repeat (first | refine blk_drewN ?_ _ | refine blk_drew ?_ | refine blk_alloc ?_ _)); exact BK144.out) hb); have n2_ := Aside0.mk (blk_below (g := gb145) (o := .cells #[.int .i64 a1_0, .int .i64 a1_1, .int .i64 a1_2] 25 (0, 0)) (by (with_reducible repeat (first | refine blk_drewN ?_ _ | refine blk_drew ?_ | refine blk_alloc ?_ _)); exact BK145.out) hb); have n3_ := Aside0.mk (blk_below (g := gb146) (o := .cells #[.int .i64 a2_0, .string a2_1, .slice A2_2 l2_2.length c2_2, .string a2_3, .int .i64 a2_4, .int .i64 a2_5] 28 (0, 0)) (by (with_reducible repeat (first | refine blk_drewN ?_ _ | refine blk_drew ?_ | refine blk_alloc ?_ _)); exact BK146.out) hb); have n4_ := Aside0.mk (below_step (by repeat (first | (with_reducible first | exact HB.out | apply below_alloc | apply pw_below_drewN | apply below_drew1 | refine below_set ?_ GE144.out | refine below_set ?_ GE145.out | refine below_set ?_ GE146.out) | exact HB.out)) hb); clear BK144; clear BK145; clear BK146; clear HB; have HO149 := n0_; have BK144 := n1_; have BK145 := n2_; have BK146 := n3_; have HB := n4_; clear n0_ n1_ n2_ n3_ n4_; clear hb ho14; obtain ⟨Ao15, co15, eo15⟩ := Kd.R_slice HO149.out; subst eo15))
  go_loopg [27] k (fun kq v27 w' => ∃ (x27_1 : Int), v27 = .int .i64 x27_1 ∧ Aside0 (decanterlaw23_CapsMore.l0 kq a3 y147 (y147.length : Int) x27_1 a0_0 a0_1 a0_2 a0_3 a0_4 a1_0 a1_1 a1_2 a2_0 a2_1 l2_2 a2_3 a2_4 a2_5 = some r) ∧ Aside0 (kq ≤ k) ∧ Aside0 (Kd.R (Kd.int .i64) 3 w' w.heap.size (fun _ => True) (.slice Ao15 y147.length co15) y147) ∧ Aside0 (w'.heap[gb144]? = some (.cells #[.int .i64 a0_0, .int .i64 a0_1, .int .i64 a0_2, .int .i64 a0_3, .int .i64 a0_4] 23 (0, 0))) ∧ Aside0 (w'.heap[gb145]? = some (.cells #[.int .i64 a1_0, .int .i64 a1_1, .int .i64 a1_2] 25 (0, 0))) ∧ Aside0 (w'.heap[gb146]? = some (.cells #[.int .i64 a2_0, .string a2_1, (.slice A2_2 l2_2.length c2_2), .string a2_3, .int .i64 a2_4, .int .i64 a2_5] 28 (0, 0))) ∧ Aside0 (Below w.heap.size w w'))
  case atStart => exact ⟨(0), (by first | rfl | (simp; done) | (simp [*]; done)), H', ⟨Nat.le_refl _⟩, ⟨by (with_reducible repeat (first | apply Kd.R_alloc | apply Kd.R_drewN | apply Kd.R_drew)); exact HO149.out⟩, ⟨by (with_reducible repeat (first | refine blk_drewN ?_ _ | refine blk_drew ?_ | refine blk_alloc ?_ _)); exact BK144.out⟩, ⟨by (with_reducible repeat (first | refine blk_drewN ?_ _ | refine blk_drew ?_ | refine blk_alloc ?_ _)); exact BK145.out⟩, ⟨by (with_reducible repeat (first | refine blk_drewN ?_ _ | refine blk_drew ?_ | refine blk_alloc ?_ _)); exact BK146.out⟩, ⟨by repeat (first | (with_reducible first | exact HB.out | apply below_alloc | apply pw_below_drewN | apply below_drew1 | refine below_set ?_ GE144.out | refine below_set ?_ GE145.out | refine below_set ?_ GE146.out) | exact HB.out)⟩⟩
  case round =>
    clear H'
    try clear c1
    try clear c2
    try clear p2
    try clear c4
    try clear c8
    try clear c9
    try clear c11
    try clear hcz10_0
    try clear hcz10_1
    try clear hcz10_2
    try clear hcz12_0
    try clear hcz12_1
    try clear hcz12_2
    try clear hcz12_3
    try clear hcz12_4
    try clear hcz12_5
    try clear hfz10_0
    try clear hfz10_1
    try clear hfz10_2
    try clear hfz12_0
    try clear hfz12_1
    try clear hfz12_2
    try clear hfz12_3
    try clear hfz12_4
    try clear hfz12_5
    obtain ⟨x27_1, rfl, HA, HK1, HO_25, BK144, BK145, BK146, HB⟩ := hrel
    cases gk with
    | zero => exact absurd HA.out (by simp [decanterlaw23_CapsMore.l0])
    | succ k1 =>
      have H := HA.out
      clear HA
      simp only [decanterlaw23_CapsMore.l0] at H
      by_cases c16 : x27_1 < (y147.length : Int)
      · rw [if_pos c16] at H
        have c16b0 : decide (x27_1 < (y147.length : Int)) = true := decide_eq_true c16
        clear c16
        by_cases c17 : 0 ≤ x27_1
        · rw [if_pos c17] at H
          have c17b0 : decide (0 ≤ x27_1) = true := decide_eq_true c17
          clear c17
          by_cases c18 : x27_1 < (y147.length : Int)
          · rw [if_pos c18] at H
            have c18b0 : decide (x27_1 < (y147.length : Int)) = true := decide_eq_true c18
            clear c18
            by_cases c19 : (rd y147 x27_1) < 0
            · rw [if_pos c19] at H
              have c19b0 : decide ((rd y147 x27_1) < 0) = true := decide_eq_true c19
              clear c19
              replace H := Option.bind_eq_some_iff.mp H
              obtain ⟨t151, A200, H⟩ := H
              replace H : (some t151) = some r := H
              have A20 := Aside0.mk A200
              clear A200
              obtain rfl := Option.some.inj H
              have p150 : 0 ≤ (x27_1 : Int) := of_decide_eq_true (by first | (with_reducible assumption) | assumption)
              have q150 : x27_1 < (y147.length : Int) := of_decide_eq_true (by first | (with_reducible assumption) | assumption)
              obtain ⟨ad150, e150, hx150_0⟩ := Kd.at_int (Kd.R_reads' HO_25.out).2.2 x27_1 p150 q150
              cases e150
              replace p150 := eq_true p150
              replace q150 := eq_true q150
              go_wp2_with (first | ((with_reducible refine gate_callee (f := 7) rfl ?_); refine goesL_ (some 37) rfl rfl Tryd.func7 (by kernel_rfl) rfl #[] rfl (by (try simp only [List.map_toArray, List.map_cons, List.map_nil]); first | done | rfl | (simp only [List.length_drop, List.length_take]; rfl)) ?_; (with_reducible refine (decanterlaw23_speaks.calls  t151 _ A20.out).mono ?_); rintro e w21 ⟨rfl, hb⟩; refine ⟨_, rfl, ?_⟩; have n0_ := Aside0.mk (Kd.R_below (by (with_reducible repeat (first | apply Kd.R_alloc | apply Kd.R_drewN | apply Kd.R_drew)); exact HO_25.out) hb); have n1_ := Aside0.mk (blk_below (g := gb144) (o := .cells #[.int .i64 a0_0, .int .i64 a0_1, .int .i64 a0_2, .int .i64 a0_3, .int .i64 a0_4] 23 (0, 0)) (by (with_reducible repeat (first | refine blk_drewN ?_ _ | refine blk_drew ?_ | refine blk_alloc ?_ _)); exact BK144.out) hb); have n2_ := Aside0.mk (blk_below (g := gb145) (o := .cells #[.int .i64 a1_0, .int .i64 a1_1, .int .i64 a1_2] 25 (0, 0)) (by (with_reducible repeat (first | refine blk_drewN ?_ _ | refine blk_drew ?_ | refine blk_alloc ?_ _)); exact BK145.out) hb); have n3_ := Aside0.mk (blk_below (g := gb146) (o := .cells #[.int .i64 a2_0, .string a2_1, .slice A2_2 l2_2.length c2_2, .string a2_3, .int .i64 a2_4, .int .i64 a2_5] 28 (0, 0)) (by (with_reducible repeat (first | refine blk_drewN ?_ _ | refine blk_drew ?_ | refine blk_alloc ?_ _)); exact BK146.out) hb); have n4_ := Aside0.mk (below_step (by repeat (first | (with_reducible first | exact HB.out | apply below_alloc | apply pw_below_drewN | apply below_drew1 | refine below_set ?_ GE144.out | refine below_set ?_ GE145.out | refine below_set ?_ GE146.out) | exact HB.out)) hb); clear HO_25; clear BK144; clear BK145; clear BK146; clear HB; have HO_25 := n0_; have BK144 := n1_; have BK145 := n2_; have BK146 := n3_; have HB := n4_; clear n0_ n1_ n2_ n3_ n4_; (try clear hb); (try clear hb2); (try clear hk); (try clear hi)))
              go_ret
              exact ⟨by first | rfl | (simp [errW_none, errW_some] <;> rfl) | (simp [*, errW_none, errW_some] <;> rfl), by repeat (first | (with_reducible first | exact HB.out | apply below_alloc | apply pw_below_drewN | apply below_drew1 | refine below_set ?_ GE144.out | refine below_set ?_ GE145.out | refine below_set ?_ GE146.out) | exact HB.out)⟩
            · rw [if_neg c19] at H
              have c19b0 : decide ((rd y147 x27_1) < 0) = false := decide_eq_false c19
              clear c19
              by_cases c22 : (rd y147 x27_1) > 549755813888
              · rw [if_pos c22] at H
                have c22b0 : decide (549755813888 < (rd y147 x27_1)) = true := decide_eq_true c22
                clear c22
                replace H := Option.bind_eq_some_iff.mp H
                obtain ⟨t152, A230, H⟩ := H
                replace H : (some t152) = some r := H
                have A23 := Aside0.mk A230
                clear A230
                obtain rfl := Option.some.inj H
                have p150 : 0 ≤ (x27_1 : Int) := of_decide_eq_true (by first | (with_reducible assumption) | assumption)
                have q150 : x27_1 < (y147.length : Int) := of_decide_eq_true (by first | (with_reducible assumption) | assumption)
                obtain ⟨ad150, e150, hx150_0⟩ := Kd.at_int (Kd.R_reads' HO_25.out).2.2 x27_1 p150 q150
                cases e150
                replace p150 := eq_true p150
                replace q150 := eq_true q150
                go_wp2_with (first | ((with_reducible refine gate_callee (f := 7) rfl ?_); refine goesL_ (some 37) rfl rfl Tryd.func7 (by kernel_rfl) rfl #[] rfl (by (try simp only [List.map_toArray, List.map_cons, List.map_nil]); first | done | rfl | (simp only [List.length_drop, List.length_take]; rfl)) ?_; (with_reducible refine (decanterlaw23_speaks.calls  t152 _ A23.out).mono ?_); rintro e w24 ⟨rfl, hb⟩; refine ⟨_, rfl, ?_⟩; have n0_ := Aside0.mk (Kd.R_below (by (with_reducible repeat (first | apply Kd.R_alloc | apply Kd.R_drewN | apply Kd.R_drew)); exact HO_25.out) hb); have n1_ := Aside0.mk (blk_below (g := gb144) (o := .cells #[.int .i64 a0_0, .int .i64 a0_1, .int .i64 a0_2, .int .i64 a0_3, .int .i64 a0_4] 23 (0, 0)) (by (with_reducible repeat (first | refine blk_drewN ?_ _ | refine blk_drew ?_ | refine blk_alloc ?_ _)); exact BK144.out) hb); have n2_ := Aside0.mk (blk_below (g := gb145) (o := .cells #[.int .i64 a1_0, .int .i64 a1_1, .int .i64 a1_2] 25 (0, 0)) (by (with_reducible repeat (first | refine blk_drewN ?_ _ | refine blk_drew ?_ | refine blk_alloc ?_ _)); exact BK145.out) hb); have n3_ := Aside0.mk (blk_below (g := gb146) (o := .cells #[.int .i64 a2_0, .string a2_1, .slice A2_2 l2_2.length c2_2, .string a2_3, .int .i64 a2_4, .int .i64 a2_5] 28 (0, 0)) (by (with_reducible repeat (first | refine blk_drewN ?_ _ | refine blk_drew ?_ | refine blk_alloc ?_ _)); exact BK146.out) hb); have n4_ := Aside0.mk (below_step (by repeat (first | (with_reducible first | exact HB.out | apply below_alloc | apply pw_below_drewN | apply below_drew1 | refine below_set ?_ GE144.out | refine below_set ?_ GE145.out | refine below_set ?_ GE146.out) | exact HB.out)) hb); clear HO_25; clear BK144; clear BK145; clear BK146; clear HB; have HO_25 := n0_; have BK144 := n1_; have BK145 := n2_; have BK146 := n3_; have HB := n4_; clear n0_ n1_ n2_ n3_ n4_; (try clear hb); (try clear hb2); (try clear hk); (try clear hi)))
                go_ret
                exact ⟨by first | rfl | (simp [errW_none, errW_some] <;> rfl) | (simp [*, errW_none, errW_some] <;> rfl), by repeat (first | (with_reducible first | exact HB.out | apply below_alloc | apply pw_below_drewN | apply below_drew1 | refine below_set ?_ GE144.out | refine below_set ?_ GE145.out | refine below_set ?_ GE146.out) | exact HB.out)⟩
              · rw [if_neg c22] at H
                have c22b0 : decide (549755813888 < (rd y147 x27_1)) = false := decide_eq_false c22
                clear c22
                have H' := Aside0.mk H
                clear H
                have p150 : 0 ≤ (x27_1 : Int) := of_decide_eq_true (by first | (with_reducible assumption) | assumption)
                have q150 : x27_1 < (y147.length : Int) := of_decide_eq_true (by first | (with_reducible assumption) | assumption)
                obtain ⟨ad150, e150, hx150_0⟩ := Kd.at_int (Kd.R_reads' HO_25.out).2.2 x27_1 p150 q150
                cases e150
                replace p150 := eq_true p150
                replace q150 := eq_true q150
                go_wp2
                go_roundg k1
                case measure => have := HK1.out; omega
                case rel => exact ⟨(wrap64 (x27_1 + 1)), (by first | rfl | (simp; done) | (simp [*]; done)), H', ⟨by have := HK1.out; omega⟩, ⟨by (with_reducible repeat (first | apply Kd.R_alloc | apply Kd.R_drewN | apply Kd.R_drew)); exact HO_25.out⟩, ⟨by (with_reducible repeat (first | refine blk_drewN ?_ _ | refine blk_drew ?_ | refine blk_alloc ?_ _)); exact BK144.out⟩, ⟨by (with_reducible repeat (first | refine blk_drewN ?_ _ | refine blk_drew ?_ | refine blk_alloc ?_ _)); exact BK145.out⟩, ⟨by (with_reducible repeat (first | refine blk_drewN ?_ _ | refine blk_drew ?_ | refine blk_alloc ?_ _)); exact BK146.out⟩, ⟨by repeat (first | (with_reducible first | exact HB.out | apply below_alloc | apply pw_below_drewN | apply below_drew1 | refine below_set ?_ GE144.out | refine below_set ?_ GE145.out | refine below_set ?_ GE146.out) | exact HB.out)⟩⟩
          · rw [if_neg c18] at H
            exact absurd H (by simp)
        · rw [if_neg c17] at H
          exact absurd H (by simp)
      · rw [if_neg c16] at H
        have c16b0 : decide (x27_1 < (y147.length : Int)) = false := decide_eq_false c16
        clear c16
        have HC25 := Aside0.mk H
        clear H
        go_upto_region 7 with (fail)
        go_cut [63] (fun v63 wc => ∃ (kq : Nat) (x63_24 : Bool), v63 = .bool x63_24 ∧ Aside0 (decanterlaw23_CapsMore.j1 kq a3 x63_24 a0_0 a0_1 a0_2 a0_3 a0_4 a1_0 a1_1 a1_2 a2_0 a2_1 l2_2 a2_3 a2_4 a2_5 = some r) ∧ Aside0 (kq ≤ k1) ∧ Aside0 (wc.heap[gb144]? = some (.cells #[.int .i64 a0_0, .int .i64 a0_1, .int .i64 a0_2, .int .i64 a0_3, .int .i64 a0_4] 23 (0, 0))) ∧ Aside0 (wc.heap[gb145]? = some (.cells #[.int .i64 a1_0, .int .i64 a1_1, .int .i64 a1_2] 25 (0, 0))) ∧ Aside0 (wc.heap[gb146]? = some (.cells #[.int .i64 a2_0, .string a2_1, (.slice A2_2 l2_2.length c2_2), .string a2_3, .int .i64 a2_4, .int .i64 a2_5] 28 (0, 0))) ∧ Aside0 (Below w.heap.size w wc))
        case first =>
          have H := HC25.out
          clear HC25
          replace H := Option.bind_eq_some_iff.mp H
          obtain ⟨t153, A260, H⟩ := H
          replace H : (if t153 = true then ((decanterref23_Check.f k1 a0_0 a0_1 a0_2 a0_3 a0_4).bind fun t154 => (if t154 = 0 then (if a2_5 < a2_4 then (decanterlaw23_CapsMore.j1 k1 a3 true a0_0 a0_1 a0_2 a0_3 a0_4 a1_0 a1_1 a1_2 a2_0 a2_1 l2_2 a2_3 a2_4 a2_5) else (if (l2_2.length : Int) > 100 then (decanterlaw23_CapsMore.j1 k1 a3 true a0_0 a0_1 a0_2 a0_3 a0_4 a1_0 a1_1 a1_2 a2_0 a2_1 l2_2 a2_3 a2_4 a2_5) else (decanterlaw23_CapsMore.j1 k1 a3 (decide (a0_0 > 1099511627776)) a0_0 a0_1 a0_2 a0_3 a0_4 a1_0 a1_1 a1_2 a2_0 a2_1 l2_2 a2_3 a2_4 a2_5))) else (decanterlaw23_CapsMore.j1 k1 a3 true a0_0 a0_1 a0_2 a0_3 a0_4 a1_0 a1_1 a1_2 a2_0 a2_1 l2_2 a2_3 a2_4 a2_5))) else (decanterlaw23_CapsMore.j1 k1 a3 true a0_0 a0_1 a0_2 a0_3 a0_4 a1_0 a1_1 a1_2 a2_0 a2_1 l2_2 a2_3 a2_4 a2_5)) = some r := H
          have A26 := Aside0.mk A260
          clear A260
          by_cases c27 : t153 = true
          · subst c27
            have H1 : ((decanterref23_Check.f k1 a0_0 a0_1 a0_2 a0_3 a0_4).bind fun t154 => (if t154 = 0 then (if a2_5 < a2_4 then (decanterlaw23_CapsMore.j1 k1 a3 true a0_0 a0_1 a0_2 a0_3 a0_4 a1_0 a1_1 a1_2 a2_0 a2_1 l2_2 a2_3 a2_4 a2_5) else (if (l2_2.length : Int) > 100 then (decanterlaw23_CapsMore.j1 k1 a3 true a0_0 a0_1 a0_2 a0_3 a0_4 a1_0 a1_1 a1_2 a2_0 a2_1 l2_2 a2_3 a2_4 a2_5) else (decanterlaw23_CapsMore.j1 k1 a3 (decide (a0_0 > 1099511627776)) a0_0 a0_1 a0_2 a0_3 a0_4 a1_0 a1_1 a1_2 a2_0 a2_1 l2_2 a2_3 a2_4 a2_5))) else (decanterlaw23_CapsMore.j1 k1 a3 true a0_0 a0_1 a0_2 a0_3 a0_4 a1_0 a1_1 a1_2 a2_0 a2_1 l2_2 a2_3 a2_4 a2_5))) = some r := by rw [if_pos rfl] at H; exact H
            clear H
            have H := H1
            clear H1
            replace H := Option.bind_eq_some_iff.mp H
            obtain ⟨t154, A280, H⟩ := H
            replace H : (if t154 = 0 then (if a2_5 < a2_4 then (decanterlaw23_CapsMore.j1 k1 a3 true a0_0 a0_1 a0_2 a0_3 a0_4 a1_0 a1_1 a1_2 a2_0 a2_1 l2_2 a2_3 a2_4 a2_5) else (if (l2_2.length : Int) > 100 then (decanterlaw23_CapsMore.j1 k1 a3 true a0_0 a0_1 a0_2 a0_3 a0_4 a1_0 a1_1 a1_2 a2_0 a2_1 l2_2 a2_3 a2_4 a2_5) else (decanterlaw23_CapsMore.j1 k1 a3 (decide (a0_0 > 1099511627776)) a0_0 a0_1 a0_2 a0_3 a0_4 a1_0 a1_1 a1_2 a2_0 a2_1 l2_2 a2_3 a2_4 a2_5))) else (decanterlaw23_CapsMore.j1 k1 a3 true a0_0 a0_1 a0_2 a0_3 a0_4 a1_0 a1_1 a1_2 a2_0 a2_1 l2_2 a2_3 a2_4 a2_5)) = some r := H
            have A28 := Aside0.mk A280
            clear A280
            by_cases c29 : t154 = 0
            · rw [if_pos c29] at H
              have c29b0 : (t154 == 0) = true := beq_iff_eq.mpr c29
              have c29b1 : (t154 != 0) = false := bne_eq_false_iff_eq.mpr c29
              clear c29
              (first | rw [c29b0] | (simp only [i64_w, i32_w]; rw [c29b0]) | skip)
              by_cases c30 : a2_5 < a2_4
              · rw [if_pos c30] at H
                have c30b0 : decide (a2_5 < a2_4) = true := decide_eq_true c30
                clear c30
                have H' := Aside0.mk H
                clear H
                go_wp2_with (first | ((with_reducible refine gate_callee (f := 7) rfl ?_); refine goesL_ (some 39) rfl rfl Tryd.func7 (by kernel_rfl) rfl #[] rfl (by (try simp only [List.map_toArray, List.map_cons, List.map_nil]); first | done | rfl | (simp only [List.length_drop, List.length_take]; rfl)) ?_; (with_reducible refine (decanterlaw23_speaks.calls  true _ A26.out).mono ?_); rintro e w31 ⟨rfl, hb⟩; refine ⟨_, rfl, ?_⟩; have n0_ := Aside0.mk (Kd.R_below (by (with_reducible repeat (first | apply Kd.R_alloc | apply Kd.R_drewN | apply Kd.R_drew)); exact HO_25.out) hb); have n1_ := Aside0.mk (blk_below (g := gb144) (o := .cells #[.int .i64 a0_0, .int .i64 a0_1, .int .i64 a0_2, .int .i64 a0_3, .int .i64 a0_4] 23 (0, 0)) (by (with_reducible repeat (first | refine blk_drewN ?_ _ | refine blk_drew ?_ | refine blk_alloc ?_ _)); exact BK144.out) hb); have n2_ := Aside0.mk (blk_below (g := gb145) (o := .cells #[.int .i64 a1_0, .int .i64 a1_1, .int .i64 a1_2] 25 (0, 0)) (by (with_reducible repeat (first | refine blk_drewN ?_ _ | refine blk_drew ?_ | refine blk_alloc ?_ _)); exact BK145.out) hb); have n3_ := Aside0.mk (blk_below (g := gb146) (o := .cells #[.int .i64 a2_0, .string a2_1, .slice A2_2 l2_2.length c2_2, .string a2_3, .int .i64 a2_4, .int .i64 a2_5] 28 (0, 0)) (by (with_reducible repeat (first | refine blk_drewN ?_ _ | refine blk_drew ?_ | refine blk_alloc ?_ _)); exact BK146.out) hb); have n4_ := Aside0.mk (below_step (by repeat (first | (with_reducible first | exact HB.out | apply below_alloc | apply pw_below_drewN | apply below_drew1 | refine below_set ?_ GE144.out | refine below_set ?_ GE145.out | refine below_set ?_ GE146.out) | exact HB.out)) hb); clear HO_25; clear BK144; clear BK145; clear BK146; clear HB; have HO_25 := n0_; have BK144 := n1_; have BK145 := n2_; have BK146 := n3_; have HB := n4_; clear n0_ n1_ n2_ n3_ n4_; (try clear hb); (try clear hb2); (try clear hk); (try clear hi); have hnb32 := NB144_145.out; have hnc32 := NB145_144.out; have hnb33 := NB144_146.out; have hnc33 := NB146_144.out; have hcz34_0 : w31.cell? ⟨gb144, 0, none⟩ = some (.int .i64 a0_0) := (blk_cell BK144.out 0).trans rfl; have hcz34_1 : w31.cell? ⟨gb144, 1, none⟩ = some (.int .i64 a0_1) := (blk_cell BK144.out 1).trans rfl; have hcz34_2 : w31.cell? ⟨gb144, 2, none⟩ = some (.int .i64 a0_2) := (blk_cell BK144.out 2).trans rfl; have hcz34_3 : w31.cell? ⟨gb144, 3, none⟩ = some (.int .i64 a0_3) := (blk_cell BK144.out 3).trans rfl; have hcz34_4 : w31.cell? ⟨gb144, 4, none⟩ = some (.int .i64 a0_4) := (blk_cell BK144.out 4).trans rfl; have hfz34_0 := blk_frozen BK144.out 0; have hfz34_1 := blk_frozen BK144.out 1; have hfz34_2 := blk_frozen BK144.out 2; have hfz34_3 := blk_frozen BK144.out 3; have hfz34_4 := blk_frozen BK144.out 4) | (go_at_call 9; (with_reducible refine (decanterref23_Check.calls k1 a0_0 a0_1 a0_2 a0_3 a0_4 t154 _ A28.out).mono ?_); rintro e w35 ⟨rfl, hb⟩; have n0_ := Aside0.mk (Kd.R_below (by (with_reducible repeat (first | apply Kd.R_alloc | apply Kd.R_drewN | apply Kd.R_drew)); exact HO_25.out) hb); have n1_ := Aside0.mk (blk_below (g := gb144) (o := .cells #[.int .i64 a0_0, .int .i64 a0_1, .int .i64 a0_2, .int .i64 a0_3, .int .i64 a0_4] 23 (0, 0)) (by (with_reducible repeat (first | refine blk_drewN ?_ _ | refine blk_drew ?_ | refine blk_alloc ?_ _)); exact BK144.out) hb); have n2_ := Aside0.mk (blk_below (g := gb145) (o := .cells #[.int .i64 a1_0, .int .i64 a1_1, .int .i64 a1_2] 25 (0, 0)) (by (with_reducible repeat (first | refine blk_drewN ?_ _ | refine blk_drew ?_ | refine blk_alloc ?_ _)); exact BK145.out) hb); have n3_ := Aside0.mk (blk_below (g := gb146) (o := .cells #[.int .i64 a2_0, .string a2_1, .slice A2_2 l2_2.length c2_2, .string a2_3, .int .i64 a2_4, .int .i64 a2_5] 28 (0, 0)) (by (with_reducible repeat (first | refine blk_drewN ?_ _ | refine blk_drew ?_ | refine blk_alloc ?_ _)); exact BK146.out) hb); have n4_ := Aside0.mk (below_step (by repeat (first | (with_reducible first | exact HB.out | apply below_alloc | apply pw_below_drewN | apply below_drew1 | refine below_set ?_ GE144.out | refine below_set ?_ GE145.out | refine below_set ?_ GE146.out) | exact HB.out)) hb); clear HO_25; clear BK144; clear BK145; clear BK146; clear HB; have HO_25 := n0_; have BK144 := n1_; have BK145 := n2_; have BK146 := n3_; have HB := n4_; clear n0_ n1_ n2_ n3_ n4_; (try clear hb); (try clear hb2); (try clear hk); (try clear hi); have hnb36 := NB146_145.out; have hnc36 := NB145_146.out; have hcz37_0 : w35.cell? ⟨gb146, 0, none⟩ = some (.int .i64 a2_0) := (blk_cell BK146.out 0).trans rfl; have hcz37_1 : w35.cell? ⟨gb146, 1, none⟩ = some (.string a2_1) := (blk_cell BK146.out 1).trans rfl; have hcz37_2 : w35.cell? ⟨gb146, 2, none⟩ = some (.slice A2_2 l2_2.length c2_2) := (blk_cell BK146.out 2).trans rfl; have hcz37_3 : w35.cell? ⟨gb146, 3, none⟩ = some (.string a2_3) := (blk_cell BK146.out 3).trans rfl; have hcz37_4 : w35.cell? ⟨gb146, 4, none⟩ = some (.int .i64 a2_4) := (blk_cell BK146.out 4).trans rfl; have hcz37_5 : w35.cell? ⟨gb146, 5, none⟩ = some (.int .i64 a2_5) := (blk_cell BK146.out 5).trans rfl; have hfz37_0 := blk_frozen BK146.out 0; have hfz37_1 := blk_frozen BK146.out 1; have hfz37_2 := blk_frozen BK146.out 2; have hfz37_3 := blk_frozen BK146.out 3; have hfz37_4 := blk_frozen BK146.out 4; have hfz37_5 := blk_frozen BK146.out 5))
                go_meet
                case rel => exact ⟨_, (true), (by first | rfl | (simp; done) | (simp [*]; done)), H', ⟨by have := HK1.out; first | omega | exact Nat.le_refl _⟩, ⟨by (with_reducible repeat (first | refine blk_drewN ?_ _ | refine blk_drew ?_ | refine blk_alloc ?_ _)); exact BK144.out⟩, ⟨by (with_reducible repeat (first | refine blk_drewN ?_ _ | refine blk_drew ?_ | refine blk_alloc ?_ _)); exact BK145.out⟩, ⟨by (with_reducible repeat (first | refine blk_drewN ?_ _ | refine blk_drew ?_ | refine blk_alloc ?_ _)); exact BK146.out⟩, ⟨by repeat (first | (with_reducible first | exact HB.out | apply below_alloc | apply pw_below_drewN | apply below_drew1 | refine below_set ?_ GE144.out | refine below_set ?_ GE145.out | refine below_set ?_ GE146.out) | exact HB.out)⟩⟩
              · rw [if_neg c30] at H
                have c30b0 : decide (a2_5 < a2_4) = false := decide_eq_false c30
                clear c30
                by_cases c38 : (l2_2.length : Int) > 100
                · rw [if_pos c38] at H
                  have c38b0 : decide (100 < (l2_2.length : Int)) = true := decide_eq_true c38
                  have c38b1 : decide (100 < l2_2.length) = true := decide_eq_true (by omega)
                  clear c38
                  have H' := Aside0.mk H
                  clear H
                  go_wp2_with (first | ((with_reducible refine gate_callee (f := 7) rfl ?_); refine goesL_ (some 39) rfl rfl Tryd.func7 (by kernel_rfl) rfl #[] rfl (by (try simp only [List.map_toArray, List.map_cons, List.map_nil]); first | done | rfl | (simp only [List.length_drop, List.length_take]; rfl)) ?_; (with_reducible refine (decanterlaw23_speaks.calls  true _ A26.out).mono ?_); rintro e w39 ⟨rfl, hb⟩; refine ⟨_, rfl, ?_⟩; have n0_ := Aside0.mk (Kd.R_below (by (with_reducible repeat (first | apply Kd.R_alloc | apply Kd.R_drewN | apply Kd.R_drew)); exact HO_25.out) hb); have n1_ := Aside0.mk (blk_below (g := gb144) (o := .cells #[.int .i64 a0_0, .int .i64 a0_1, .int .i64 a0_2, .int .i64 a0_3, .int .i64 a0_4] 23 (0, 0)) (by (with_reducible repeat (first | refine blk_drewN ?_ _ | refine blk_drew ?_ | refine blk_alloc ?_ _)); exact BK144.out) hb); have n2_ := Aside0.mk (blk_below (g := gb145) (o := .cells #[.int .i64 a1_0, .int .i64 a1_1, .int .i64 a1_2] 25 (0, 0)) (by (with_reducible repeat (first | refine blk_drewN ?_ _ | refine blk_drew ?_ | refine blk_alloc ?_ _)); exact BK145.out) hb); have n3_ := Aside0.mk (blk_below (g := gb146) (o := .cells #[.int .i64 a2_0, .string a2_1, .slice A2_2 l2_2.length c2_2, .string a2_3, .int .i64 a2_4, .int .i64 a2_5] 28 (0, 0)) (by (with_reducible repeat (first | refine blk_drewN ?_ _ | refine blk_drew ?_ | refine blk_alloc ?_ _)); exact BK146.out) hb); have n4_ := Aside0.mk (below_step (by repeat (first | (with_reducible first | exact HB.out | apply below_alloc | apply pw_below_drewN | apply below_drew1 | refine below_set ?_ GE144.out | refine below_set ?_ GE145.out | refine below_set ?_ GE146.out) | exact HB.out)) hb); clear HO_25; clear BK144; clear BK145; clear BK146; clear HB; have HO_25 := n0_; have BK144 := n1_; have BK145 := n2_; have BK146 := n3_; have HB := n4_; clear n0_ n1_ n2_ n3_ n4_; (try clear hb); (try clear hb2); (try clear hk); (try clear hi); have hnb40 := NB144_145.out; have hnc40 := NB145_144.out; have hnb41 := NB144_146.out; have hnc41 := NB146_144.out; have hcz42_0 : w39.cell? ⟨gb144, 0, none⟩ = some (.int .i64 a0_0) := (blk_cell BK144.out 0).trans rfl; have hcz42_1 : w39.cell? ⟨gb144, 1, none⟩ = some (.int .i64 a0_1) := (blk_cell BK144.out 1).trans rfl; have hcz42_2 : w39.cell? ⟨gb144, 2, none⟩ = some (.int .i64 a0_2) := (blk_cell BK144.out 2).trans rfl; have hcz42_3 : w39.cell? ⟨gb144, 3, none⟩ = some (.int .i64 a0_3) := (blk_cell BK144.out 3).trans rfl; have hcz42_4 : w39.cell? ⟨gb144, 4, none⟩ = some (.int .i64 a0_4) := (blk_cell BK144.out 4).trans rfl; have hfz42_0 := blk_frozen BK144.out 0; have hfz42_1 := blk_frozen BK144.out 1; have hfz42_2 := blk_frozen BK144.out 2; have hfz42_3 := blk_frozen BK144.out 3; have hfz42_4 := blk_frozen BK144.out 4) | (go_at_call 9; (with_reducible refine (decanterref23_Check.calls k1 a0_0 a0_1 a0_2 a0_3 a0_4 t154 _ A28.out).mono ?_); rintro e w43 ⟨rfl, hb⟩; have n0_ := Aside0.mk (Kd.R_below (by (with_reducible repeat (first | apply Kd.R_alloc | apply Kd.R_drewN | apply Kd.R_drew)); exact HO_25.out) hb); have n1_ := Aside0.mk (blk_below (g := gb144) (o := .cells #[.int .i64 a0_0, .int .i64 a0_1, .int .i64 a0_2, .int .i64 a0_3, .int .i64 a0_4] 23 (0, 0)) (by (with_reducible repeat (first | refine blk_drewN ?_ _ | refine blk_drew ?_ | refine blk_alloc ?_ _)); exact BK144.out) hb); have n2_ := Aside0.mk (blk_below (g := gb145) (o := .cells #[.int .i64 a1_0, .int .i64 a1_1, .int .i64 a1_2] 25 (0, 0)) (by (with_reducible repeat (first | refine blk_drewN ?_ _ | refine blk_drew ?_ | refine blk_alloc ?_ _)); exact BK145.out) hb); have n3_ := Aside0.mk (blk_below (g := gb146) (o := .cells #[.int .i64 a2_0, .string a2_1, .slice A2_2 l2_2.length c2_2, .string a2_3, .int .i64 a2_4, .int .i64 a2_5] 28 (0, 0)) (by (with_reducible repeat (first | refine blk_drewN ?_ _ | refine blk_drew ?_ | refine blk_alloc ?_ _)); exact BK146.out) hb); have n4_ := Aside0.mk (below_step (by repeat (first | (with_reducible first | exact HB.out | apply below_alloc | apply pw_below_drewN | apply below_drew1 | refine below_set ?_ GE144.out | refine below_set ?_ GE145.out | refine below_set ?_ GE146.out) | exact HB.out)) hb); clear HO_25; clear BK144; clear BK145; clear BK146; clear HB; have HO_25 := n0_; have BK144 := n1_; have BK145 := n2_; have BK146 := n3_; have HB := n4_; clear n0_ n1_ n2_ n3_ n4_; (try clear hb); (try clear hb2); (try clear hk); (try clear hi); have hnb44 := NB146_145.out; have hnc44 := NB145_146.out; have hcz45_0 : w43.cell? ⟨gb146, 0, none⟩ = some (.int .i64 a2_0) := (blk_cell BK146.out 0).trans rfl; have hcz45_1 : w43.cell? ⟨gb146, 1, none⟩ = some (.string a2_1) := (blk_cell BK146.out 1).trans rfl; have hcz45_2 : w43.cell? ⟨gb146, 2, none⟩ = some (.slice A2_2 l2_2.length c2_2) := (blk_cell BK146.out 2).trans rfl; have hcz45_3 : w43.cell? ⟨gb146, 3, none⟩ = some (.string a2_3) := (blk_cell BK146.out 3).trans rfl; have hcz45_4 : w43.cell? ⟨gb146, 4, none⟩ = some (.int .i64 a2_4) := (blk_cell BK146.out 4).trans rfl; have hcz45_5 : w43.cell? ⟨gb146, 5, none⟩ = some (.int .i64 a2_5) := (blk_cell BK146.out 5).trans rfl; have hfz45_0 := blk_frozen BK146.out 0; have hfz45_1 := blk_frozen BK146.out 1; have hfz45_2 := blk_frozen BK146.out 2; have hfz45_3 := blk_frozen BK146.out 3; have hfz45_4 := blk_frozen BK146.out 4; have hfz45_5 := blk_frozen BK146.out 5))
                  go_meet
                  case rel => exact ⟨_, (true), (by first | rfl | (simp; done) | (simp [*]; done)), H', ⟨by have := HK1.out; first | omega | exact Nat.le_refl _⟩, ⟨by (with_reducible repeat (first | refine blk_drewN ?_ _ | refine blk_drew ?_ | refine blk_alloc ?_ _)); exact BK144.out⟩, ⟨by (with_reducible repeat (first | refine blk_drewN ?_ _ | refine blk_drew ?_ | refine blk_alloc ?_ _)); exact BK145.out⟩, ⟨by (with_reducible repeat (first | refine blk_drewN ?_ _ | refine blk_drew ?_ | refine blk_alloc ?_ _)); exact BK146.out⟩, ⟨by repeat (first | (with_reducible first | exact HB.out | apply below_alloc | apply pw_below_drewN | apply below_drew1 | refine below_set ?_ GE144.out | refine below_set ?_ GE145.out | refine below_set ?_ GE146.out) | exact HB.out)⟩⟩
                · rw [if_neg c38] at H
                  have c38b0 : decide (100 < (l2_2.length : Int)) = false := decide_eq_false c38
                  have c38b1 : decide (100 < l2_2.length) = false := decide_eq_false (by omega)
                  clear c38
                  have H' := Aside0.mk H
                  clear H
                  go_wp2_with (first | ((with_reducible refine gate_callee (f := 7) rfl ?_); refine goesL_ (some 39) rfl rfl Tryd.func7 (by kernel_rfl) rfl #[] rfl (by (try simp only [List.map_toArray, List.map_cons, List.map_nil]); first | done | rfl | (simp only [List.length_drop, List.length_take]; rfl)) ?_; (with_reducible refine (decanterlaw23_speaks.calls  true _ A26.out).mono ?_); rintro e w46 ⟨rfl, hb⟩; refine ⟨_, rfl, ?_⟩; have n0_ := Aside0.mk (Kd.R_below (by (with_reducible repeat (first | apply Kd.R_alloc | apply Kd.R_drewN | apply Kd.R_drew)); exact HO_25.out) hb); have n1_ := Aside0.mk (blk_below (g := gb144) (o := .cells #[.int .i64 a0_0, .int .i64 a0_1, .int .i64 a0_2, .int .i64 a0_3, .int .i64 a0_4] 23 (0, 0)) (by (with_reducible repeat (first | refine blk_drewN ?_ _ | refine blk_drew ?_ | refine blk_alloc ?_ _)); exact BK144.out) hb); have n2_ := Aside0.mk (blk_below (g := gb145) (o := .cells #[.int .i64 a1_0, .int .i64 a1_1, .int .i64 a1_2] 25 (0, 0)) (by (with_reducible repeat (first | refine blk_drewN ?_ _ | refine blk_drew ?_ | refine blk_alloc ?_ _)); exact BK145.out) hb); have n3_ := Aside0.mk (blk_below (g := gb146) (o := .cells #[.int .i64 a2_0, .string a2_1, .slice A2_2 l2_2.length c2_2, .string a2_3, .int .i64 a2_4, .int .i64 a2_5] 28 (0, 0)) (by (with_reducible repeat (first | refine blk_drewN ?_ _ | refine blk_drew ?_ | refine blk_alloc ?_ _)); exact BK146.out) hb); have n4_ := Aside0.mk (below_step (by repeat (first | (with_reducible first | exact HB.out | apply below_alloc | apply pw_below_drewN | apply below_drew1 | refine below_set ?_ GE144.out | refine below_set ?_ GE145.out | refine below_set ?_ GE146.out) | exact HB.out)) hb); clear HO_25; clear BK144; clear BK145; clear BK146; clear HB; have HO_25 := n0_; have BK144 := n1_; have BK145 := n2_; have BK146 := n3_; have HB := n4_; clear n0_ n1_ n2_ n3_ n4_; (try clear hb); (try clear hb2); (try clear hk); (try clear hi); have hnb47 := NB144_145.out; have hnc47 := NB145_144.out; have hnb48 := NB144_146.out; have hnc48 := NB146_144.out; have hcz49_0 : w46.cell? ⟨gb144, 0, none⟩ = some (.int .i64 a0_0) := (blk_cell BK144.out 0).trans rfl; have hcz49_1 : w46.cell? ⟨gb144, 1, none⟩ = some (.int .i64 a0_1) := (blk_cell BK144.out 1).trans rfl; have hcz49_2 : w46.cell? ⟨gb144, 2, none⟩ = some (.int .i64 a0_2) := (blk_cell BK144.out 2).trans rfl; have hcz49_3 : w46.cell? ⟨gb144, 3, none⟩ = some (.int .i64 a0_3) := (blk_cell BK144.out 3).trans rfl; have hcz49_4 : w46.cell? ⟨gb144, 4, none⟩ = some (.int .i64 a0_4) := (blk_cell BK144.out 4).trans rfl; have hfz49_0 := blk_frozen BK144.out 0; have hfz49_1 := blk_frozen BK144.out 1; have hfz49_2 := blk_frozen BK144.out 2; have hfz49_3 := blk_frozen BK144.out 3; have hfz49_4 := blk_frozen BK144.out 4) | (go_at_call 9; (with_reducible refine (decanterref23_Check.calls k1 a0_0 a0_1 a0_2 a0_3 a0_4 t154 _ A28.out).mono ?_); rintro e w50 ⟨rfl, hb⟩; have n0_ := Aside0.mk (Kd.R_below (by (with_reducible repeat (first | apply Kd.R_alloc | apply Kd.R_drewN | apply Kd.R_drew)); exact HO_25.out) hb); have n1_ := Aside0.mk (blk_below (g := gb144) (o := .cells #[.int .i64 a0_0, .int .i64 a0_1, .int .i64 a0_2, .int .i64 a0_3, .int .i64 a0_4] 23 (0, 0)) (by (with_reducible repeat (first | refine blk_drewN ?_ _ | refine blk_drew ?_ | refine blk_alloc ?_ _)); exact BK144.out) hb); have n2_ := Aside0.mk (blk_below (g := gb145) (o := .cells #[.int .i64 a1_0, .int .i64 a1_1, .int .i64 a1_2] 25 (0, 0)) (by (with_reducible repeat (first | refine blk_drewN ?_ _ | refine blk_drew ?_ | refine blk_alloc ?_ _)); exact BK145.out) hb); have n3_ := Aside0.mk (blk_below (g := gb146) (o := .cells #[.int .i64 a2_0, .string a2_1, .slice A2_2 l2_2.length c2_2, .string a2_3, .int .i64 a2_4, .int .i64 a2_5] 28 (0, 0)) (by (with_reducible repeat (first | refine blk_drewN ?_ _ | refine blk_drew ?_ | refine blk_alloc ?_ _)); exact BK146.out) hb); have n4_ := Aside0.mk (below_step (by repeat (first | (with_reducible first | exact HB.out | apply below_alloc | apply pw_below_drewN | apply below_drew1 | refine below_set ?_ GE144.out | refine below_set ?_ GE145.out | refine below_set ?_ GE146.out) | exact HB.out)) hb); clear HO_25; clear BK144; clear BK145; clear BK146; clear HB; have HO_25 := n0_; have BK144 := n1_; have BK145 := n2_; have BK146 := n3_; have HB := n4_; clear n0_ n1_ n2_ n3_ n4_; (try clear hb); (try clear hb2); (try clear hk); (try clear hi); have hnb51 := NB146_145.out; have hnc51 := NB145_146.out; have hcz52_0 : w50.cell? ⟨gb146, 0, none⟩ = some (.int .i64 a2_0) := (blk_cell BK146.out 0).trans rfl; have hcz52_1 : w50.cell? ⟨gb146, 1, none⟩ = some (.string a2_1) := (blk_cell BK146.out 1).trans rfl; have hcz52_2 : w50.cell? ⟨gb146, 2, none⟩ = some (.slice A2_2 l2_2.length c2_2) := (blk_cell BK146.out 2).trans rfl; have hcz52_3 : w50.cell? ⟨gb146, 3, none⟩ = some (.string a2_3) := (blk_cell BK146.out 3).trans rfl; have hcz52_4 : w50.cell? ⟨gb146, 4, none⟩ = some (.int .i64 a2_4) := (blk_cell BK146.out 4).trans rfl; have hcz52_5 : w50.cell? ⟨gb146, 5, none⟩ = some (.int .i64 a2_5) := (blk_cell BK146.out 5).trans rfl; have hfz52_0 := blk_frozen BK146.out 0; have hfz52_1 := blk_frozen BK146.out 1; have hfz52_2 := blk_frozen BK146.out 2; have hfz52_3 := blk_frozen BK146.out 3; have hfz52_4 := blk_frozen BK146.out 4; have hfz52_5 := blk_frozen BK146.out 5; have hcz53_0 : w50.cell? ⟨gb144, 0, none⟩ = some (.int .i64 a0_0) := (blk_cell BK144.out 0).trans rfl; have hcz53_1 : w50.cell? ⟨gb144, 1, none⟩ = some (.int .i64 a0_1) := (blk_cell BK144.out 1).trans rfl; have hcz53_2 : w50.cell? ⟨gb144, 2, none⟩ = some (.int .i64 a0_2) := (blk_cell BK144.out 2).trans rfl; have hcz53_3 : w50.cell? ⟨gb144, 3, none⟩ = some (.int .i64 a0_3) := (blk_cell BK144.out 3).trans rfl; have hcz53_4 : w50.cell? ⟨gb144, 4, none⟩ = some (.int .i64 a0_4) := (blk_cell BK144.out 4).trans rfl; have hfz53_0 := blk_frozen BK144.out 0; have hfz53_1 := blk_frozen BK144.out 1; have hfz53_2 := blk_frozen BK144.out 2; have hfz53_3 := blk_frozen BK144.out 3; have hfz53_4 := blk_frozen BK144.out 4))
                  go_meet
                  case rel => exact ⟨_, (decide (a0_0 > 1099511627776)), (by first | rfl | (simp; done) | (simp [*]; done)), H', ⟨by have := HK1.out; first | omega | exact Nat.le_refl _⟩, ⟨by (with_reducible repeat (first | refine blk_drewN ?_ _ | refine blk_drew ?_ | refine blk_alloc ?_ _)); exact BK144.out⟩, ⟨by (with_reducible repeat (first | refine blk_drewN ?_ _ | refine blk_drew ?_ | refine blk_alloc ?_ _)); exact BK145.out⟩, ⟨by (with_reducible repeat (first | refine blk_drewN ?_ _ | refine blk_drew ?_ | refine blk_alloc ?_ _)); exact BK146.out⟩, ⟨by repeat (first | (with_reducible first | exact HB.out | apply below_alloc | apply pw_below_drewN | apply below_drew1 | refine below_set ?_ GE144.out | refine below_set ?_ GE145.out | refine below_set ?_ GE146.out) | exact HB.out)⟩⟩
            · rw [if_neg c29] at H
              have c29b0 : (t154 == 0) = false := beq_eq_false_iff_ne.mpr c29
              have c29b1 : (t154 != 0) = true := bne_iff_ne.mpr c29
              (first | rw [c29b0] | (simp only [i64_w, i32_w]; rw [c29b0]) | skip)
              have H' := Aside0.mk H
              clear H
              go_wp2_with (first | ((with_reducible refine gate_callee (f := 7) rfl ?_); refine goesL_ (some 39) rfl rfl Tryd.func7 (by kernel_rfl) rfl #[] rfl (by (try simp only [List.map_toArray, List.map_cons, List.map_nil]); first | done | rfl | (simp only [List.length_drop, List.length_take]; rfl)) ?_; (with_reducible refine (decanterlaw23_speaks.calls  true _ A26.out).mono ?_); rintro e w54 ⟨rfl, hb⟩; refine ⟨_, rfl, ?_⟩; have n0_ := Aside0.mk (Kd.R_below (by (with_reducible repeat (first | apply Kd.R_alloc | apply Kd.R_drewN | apply Kd.R_drew)); exact HO_25.out) hb); have n1_ := Aside0.mk (blk_below (g := gb144) (o := .cells #[.int .i64 a0_0, .int .i64 a0_1, .int .i64 a0_2, .int .i64 a0_3, .int .i64 a0_4] 23 (0, 0)) (by (with_reducible repeat (first | refine blk_drewN ?_ _ | refine blk_drew ?_ | refine blk_alloc ?_ _)); exact BK144.out) hb); have n2_ := Aside0.mk (blk_below (g := gb145) (o := .cells #[.int .i64 a1_0, .int .i64 a1_1, .int .i64 a1_2] 25 (0, 0)) (by (with_reducible repeat (first | refine blk_drewN ?_ _ | refine blk_drew ?_ | refine blk_alloc ?_ _)); exact BK145.out) hb); have n3_ := Aside0.mk (blk_below (g := gb146) (o := .cells #[.int .i64 a2_0, .string a2_1, .slice A2_2 l2_2.length c2_2, .string a2_3, .int .i64 a2_4, .int .i64 a2_5] 28 (0, 0)) (by (with_reducible repeat (first | refine blk_drewN ?_ _ | refine blk_drew ?_ | refine blk_alloc ?_ _)); exact BK146.out) hb); have n4_ := Aside0.mk (below_step (by repeat (first | (with_reducible first | exact HB.out | apply below_alloc | apply pw_below_drewN | apply below_drew1 | refine below_set ?_ GE144.out | refine below_set ?_ GE145.out | refine below_set ?_ GE146.out) | exact HB.out)) hb); clear HO_25; clear BK144; clear BK145; clear BK146; clear HB; have HO_25 := n0_; have BK144 := n1_; have BK145 := n2_; have BK146 := n3_; have HB := n4_; clear n0_ n1_ n2_ n3_ n4_; (try clear hb); (try clear hb2); (try clear hk); (try clear hi); have hnb55 := NB144_145.out; have hnc55 := NB145_144.out; have hnb56 := NB144_146.out; have hnc56 := NB146_144.out; have hcz57_0 : w54.cell? ⟨gb144, 0, none⟩ = some (.int .i64 a0_0) := (blk_cell BK144.out 0).trans rfl; have hcz57_1 : w54.cell? ⟨gb144, 1, none⟩ = some (.int .i64 a0_1) := (blk_cell BK144.out 1).trans rfl; have hcz57_2 : w54.cell? ⟨gb144, 2, none⟩ = some (.int .i64 a0_2) := (blk_cell BK144.out 2).trans rfl; have hcz57_3 : w54.cell? ⟨gb144, 3, none⟩ = some (.int .i64 a0_3) := (blk_cell BK144.out 3).trans rfl; have hcz57_4 : w54.cell? ⟨gb144, 4, none⟩ = some (.int .i64 a0_4) := (blk_cell BK144.out 4).trans rfl; have hfz57_0 := blk_frozen BK144.out 0; have hfz57_1 := blk_frozen BK144.out 1; have hfz57_2 := blk_frozen BK144.out 2; have hfz57_3 := blk_frozen BK144.out 3; have hfz57_4 := blk_frozen BK144.out 4) | (go_at_call 9; (with_reducible refine (decanterref23_Check.calls k1 a0_0 a0_1 a0_2 a0_3 a0_4 t154 _ A28.out).mono ?_); rintro e w58 ⟨rfl, hb⟩; have n0_ := Aside0.mk (Kd.R_below (by (with_reducible repeat (first | apply Kd.R_alloc | apply Kd.R_drewN | apply Kd.R_drew)); exact HO_25.out) hb); have n1_ := Aside0.mk (blk_below (g := gb144) (o := .cells #[.int .i64 a0_0, .int .i64 a0_1, .int .i64 a0_2, .int .i64 a0_3, .int .i64 a0_4] 23 (0, 0)) (by (with_reducible repeat (first | refine blk_drewN ?_ _ | refine blk_drew ?_ | refine blk_alloc ?_ _)); exact BK144.out) hb); have n2_ := Aside0.mk (blk_below (g := gb145) (o := .cells #[.int .i64 a1_0, .int .i64 a1_1, .int .i64 a1_2] 25 (0, 0)) (by (with_reducible repeat (first | refine blk_drewN ?_ _ | refine blk_drew ?_ | refine blk_alloc ?_ _)); exact BK145.out) hb); have n3_ := Aside0.mk (blk_below (g := gb146) (o := .cells #[.int .i64 a2_0, .string a2_1, .slice A2_2 l2_2.length c2_2, .string a2_3, .int .i64 a2_4, .int .i64 a2_5] 28 (0, 0)) (by (with_reducible repeat (first | refine blk_drewN ?_ _ | refine blk_drew ?_ | refine blk_alloc ?_ _)); exact BK146.out) hb); have n4_ := Aside0.mk (below_step (by repeat (first | (with_reducible first | exact HB.out | apply below_alloc | apply pw_below_drewN | apply below_drew1 | refine below_set ?_ GE144.out | refine below_set ?_ GE145.out | refine below_set ?_ GE146.out) | exact HB.out)) hb); clear HO_25; clear BK144; clear BK145; clear BK146; clear HB; have HO_25 := n0_; have BK144 := n1_; have BK145 := n2_; have BK146 := n3_; have HB := n4_; clear n0_ n1_ n2_ n3_ n4_; (try clear hb); (try clear hb2); (try clear hk); (try clear hi)))
              go_meet
              case rel => exact ⟨_, (true), (by first | rfl | (simp; done) | (simp [*]; done)), H', ⟨by have := HK1.out; first | omega | exact Nat.le_refl _⟩, ⟨by (with_reducible repeat (first | refine blk_drewN ?_ _ | refine blk_drew ?_ | refine blk_alloc ?_ _)); exact BK144.out⟩, ⟨by (with_reducible repeat (first | refine blk_drewN ?_ _ | refine blk_drew ?_ | refine blk_alloc ?_ _)); exact BK145.out⟩, ⟨by (with_reducible repeat (first | refine blk_drewN ?_ _ | refine blk_drew ?_ | refine blk_alloc ?_ _)); exact BK146.out⟩, ⟨by repeat (first | (with_reducible first | exact HB.out | apply below_alloc | apply pw_below_drewN | apply below_drew1 | refine below_set ?_ GE144.out | refine below_set ?_ GE145.out | refine below_set ?_ GE146.out) | exact HB.out)⟩⟩
          · replace c27 := Bool.eq_false_iff.mpr c27
            subst c27
            have H1 : (decanterlaw23_CapsMore.j1 k1 a3 true a0_0 a0_1 a0_2 a0_3 a0_4 a1_0 a1_1 a1_2 a2_0 a2_1 l2_2 a2_3 a2_4 a2_5) = some r := by rw [if_neg (show ¬ (false = true) by decide)] at H; exact H
            clear H
            have H := H1
            clear H1
            have H' := Aside0.mk H
            clear H
            go_wp2_with (first | ((with_reducible refine gate_callee (f := 7) rfl ?_); refine goesL_ (some 39) rfl rfl Tryd.func7 (by kernel_rfl) rfl #[] rfl (by (try simp only [List.map_toArray, List.map_cons, List.map_nil]); first | done | rfl | (simp only [List.length_drop, List.length_take]; rfl)) ?_; (with_reducible refine (decanterlaw23_speaks.calls  false _ A26.out).mono ?_); rintro e w59 ⟨rfl, hb⟩; refine ⟨_, rfl, ?_⟩; have n0_ := Aside0.mk (Kd.R_below (by (with_reducible repeat (first | apply Kd.R_alloc | apply Kd.R_drewN | apply Kd.R_drew)); exact HO_25.out) hb); have n1_ := Aside0.mk (blk_below (g := gb144) (o := .cells #[.int .i64 a0_0, .int .i64 a0_1, .int .i64 a0_2, .int .i64 a0_3, .int .i64 a0_4] 23 (0, 0)) (by (with_reducible repeat (first | refine blk_drewN ?_ _ | refine blk_drew ?_ | refine blk_alloc ?_ _)); exact BK144.out) hb); have n2_ := Aside0.mk (blk_below (g := gb145) (o := .cells #[.int .i64 a1_0, .int .i64 a1_1, .int .i64 a1_2] 25 (0, 0)) (by (with_reducible repeat (first | refine blk_drewN ?_ _ | refine blk_drew ?_ | refine blk_alloc ?_ _)); exact BK145.out) hb); have n3_ := Aside0.mk (blk_below (g := gb146) (o := .cells #[.int .i64 a2_0, .string a2_1, .slice A2_2 l2_2.length c2_2, .string a2_3, .int .i64 a2_4, .int .i64 a2_5] 28 (0, 0)) (by (with_reducible repeat (first | refine blk_drewN ?_ _ | refine blk_drew ?_ | refine blk_alloc ?_ _)); exact BK146.out) hb); have n4_ := Aside0.mk (below_step (by repeat (first | (with_reducible first | exact HB.out | apply below_alloc | apply pw_below_drewN | apply below_drew1 | refine below_set ?_ GE144.out | refine below_set ?_ GE145.out | refine below_set ?_ GE146.out) | exact HB.out)) hb); clear HO_25; clear BK144; clear BK145; clear BK146; clear HB; have HO_25 := n0_; have BK144 := n1_; have BK145 := n2_; have BK146 := n3_; have HB := n4_; clear n0_ n1_ n2_ n3_ n4_; (try clear hb); (try clear hb2); (try clear hk); (try clear hi)))
            go_meet
            case rel => exact ⟨_, (true), (by first | rfl | (simp; done) | (simp [*]; done)), H', ⟨by have := HK1.out; first | omega | exact Nat.le_refl _⟩, ⟨by (with_reducible repeat (first | refine blk_drewN ?_ _ | refine blk_drew ?_ | refine blk_alloc ?_ _)); exact BK144.out⟩, ⟨by (with_reducible repeat (first | refine blk_drewN ?_ _ | refine blk_drew ?_ | refine blk_alloc ?_ _)); exact BK145.out⟩, ⟨by (with_reducible repeat (first | refine blk_drewN ?_ _ | refine blk_drew ?_ | refine blk_alloc ?_ _)); exact BK146.out⟩, ⟨by repeat (first | (with_reducible first | exact HB.out | apply below_alloc | apply pw_below_drewN | apply below_drew1 | refine below_set ?_ GE144.out | refine below_set ?_ GE145.out | refine below_set ?_ GE146.out) | exact HB.out)⟩⟩
        case rest =>
          clear HC25
          try clear c1
          try clear p1
          try clear q1
          try clear hx1
          try clear c2
          try clear p2
          try clear c3
          try clear c4
          try clear c5
          try clear p6
          try clear c7
          try clear c8
          try clear c9
          try clear c11
          try clear p15
          try clear q15
          try clear hx15
          try clear c16
          try clear c16b0
          try clear c17
          try clear c17b0
          try clear c18
          try clear c18b0
          try clear c19
          try clear c19b0
          try clear c22
          try clear c22b0
          try clear c27
          try clear c29
          try clear c29b0
          try clear c29b1
          try clear c30
          try clear c30b0
          try clear c32
          try clear c33
          try clear c36
          try clear c38
          try clear c38b0
          try clear c38b1
          try clear c40
          try clear c41
          try clear c44
          try clear c47
          try clear c48
          try clear c51
          try clear c55
          try clear c56
          try clear hcz10_0
          try clear hcz10_1
          try clear hcz10_2
          try clear hcz12_0
          try clear hcz12_1
          try clear hcz12_2
          try clear hcz12_3
          try clear hcz12_4
          try clear hcz12_5
          try clear hcz34_0
          try clear hcz34_1
          try clear hcz34_2
          try clear hcz34_3
          try clear hcz34_4
          try clear hcz37_0
          try clear hcz37_1
          try clear hcz37_2
          try clear hcz37_3
          try clear hcz37_4
          try clear hcz37_5
          try clear hcz42_0
          try clear hcz42_1
          try clear hcz42_2
          try clear hcz42_3
          try clear hcz42_4
          try clear hcz45_0
          try clear hcz45_1
          try clear hcz45_2
          try clear hcz45_3
          try clear hcz45_4
          try clear hcz45_5
          try clear hcz49_0
          try clear hcz49_1
          try clear hcz49_2
          try clear hcz49_3
          try clear hcz49_4
          try clear hcz52_0
          try clear hcz52_1
          try clear hcz52_2
          try clear hcz52_3
          try clear hcz52_4
          try clear hcz52_5
          try clear hcz53_0
          try clear hcz53_1
          try clear hcz53_2
          try clear hcz53_3
          try clear hcz53_4
          try clear hcz57_0
          try clear hcz57_1
          try clear hcz57_2
          try clear hcz57_3
          try clear hcz57_4
          try clear hfz10_0
          try clear hfz10_1
          try clear hfz10_2
          try clear hfz12_0
          try clear hfz12_1
          try clear hfz12_2
          try clear hfz12_3
          try clear hfz12_4
          try clear hfz12_5
          try clear hfz34_0
          try clear hfz34_1
          try clear hfz34_2
          try clear hfz34_3
          try clear hfz34_4
          try clear hfz37_0
          try clear hfz37_1
          try clear hfz37_2
          try clear hfz37_3
          try clear hfz37_4
          try clear hfz37_5
          try clear hfz42_0
          try clear hfz42_1
          try clear hfz42_2
          try clear hfz42_3
          try clear hfz42_4
          try clear hfz45_0
          try clear hfz45_1
          try clear hfz45_2
          try clear hfz45_3
          try clear hfz45_4
          try clear hfz45_5
          try clear hfz49_0
          try clear hfz49_1
          try clear hfz49_2
          try clear hfz49_3
          try clear hfz49_4
          try clear hfz52_0
          try clear hfz52_1
          try clear hfz52_2
          try clear hfz52_3
          try clear hfz52_4
          try clear hfz52_5
          try clear hfz53_0
          try clear hfz53_1
          try clear hfz53_2
          try clear hfz53_3
          try clear hfz53_4
          try clear hfz57_0
          try clear hfz57_1
          try clear hfz57_2
          try clear hfz57_3
          try clear hfz57_4
          try clear hx150_0
          try clear p150
          try clear p2
          try clear q150
          obtain ⟨kq, x63_24, rfl, HA, HJ24, BK144, BK145, BK146, HB⟩ := hcut
          cases kq with
          | zero => exact absurd HA.out (by simp [decanterlaw23_CapsMore.j1])
          | succ kj24 =>
            have H := HA.out
            clear HA
            simp only [decanterlaw23_CapsMore.j1] at H
            by_cases c60 : x63_24 = true
            · subst c60
              have H1 : ((decanterlaw23_speaks.f).bind fun t155 => (some t155)) = some r := by rw [if_pos rfl] at H; exact H
              clear H
              have H := H1
              clear H1
              replace H := Option.bind_eq_some_iff.mp H
              obtain ⟨t155, A610, H⟩ := H
              replace H : (some t155) = some r := H
              have A61 := Aside0.mk A610
              clear A610
              obtain rfl := Option.some.inj H
              go_wp2_with (first | ((with_reducible refine gate_callee (f := 7) rfl ?_); refine goesL_ (some 64) rfl rfl Tryd.func7 (by kernel_rfl) rfl #[] rfl (by (try simp only [List.map_toArray, List.map_cons, List.map_nil]); first | done | rfl | (simp only [List.length_drop, List.length_take]; rfl)) ?_; (with_reducible refine (decanterlaw23_speaks.calls  t155 _ A61.out).mono ?_); rintro e w62 ⟨rfl, hb⟩; refine ⟨_, rfl, ?_⟩; have n0_ := Aside0.mk (blk_below (g := gb144) (o := .cells #[.int .i64 a0_0, .int .i64 a0_1, .int .i64 a0_2, .int .i64 a0_3, .int .i64 a0_4] 23 (0, 0)) (by (with_reducible repeat (first | refine blk_drewN ?_ _ | refine blk_drew ?_ | refine blk_alloc ?_ _)); exact BK144.out) hb); have n1_ := Aside0.mk (blk_below (g := gb145) (o := .cells #[.int .i64 a1_0, .int .i64 a1_1, .int .i64 a1_2] 25 (0, 0)) (by (with_reducible repeat (first | refine blk_drewN ?_ _ | refine blk_drew ?_ | refine blk_alloc ?_ _)); exact BK145.out) hb); have n2_ := Aside0.mk (blk_below (g := gb146) (o := .cells #[.int .i64 a2_0, .string a2_1, .slice A2_2 l2_2.length c2_2, .string a2_3, .int .i64 a2_4, .int .i64 a2_5] 28 (0, 0)) (by (with_reducible repeat (first | refine blk_drewN ?_ _ | refine blk_drew ?_ | refine blk_alloc ?_ _)); exact BK146.out) hb); have n3_ := Aside0.mk (below_step (by repeat (first | (with_reducible first | exact HB.out | apply below_alloc | apply pw_below_drewN | apply below_drew1 | refine below_set ?_ GE144.out | refine below_set ?_ GE145.out | refine below_set ?_ GE146.out) | exact HB.out)) hb); clear BK144; clear BK145; clear BK146; clear HB; have BK144 := n0_; have BK145 := n1_; have BK146 := n2_; have HB := n3_; clear n0_ n1_ n2_ n3_; (try clear hb); (try clear hb2); (try clear hk); (try clear hi)))
              go_ret
              exact ⟨by first | rfl | (simp [errW_none, errW_some] <;> rfl) | (simp [*, errW_none, errW_some] <;> rfl), by repeat (first | (with_reducible first | exact HB.out | apply below_alloc | apply pw_below_drewN | apply below_drew1 | refine below_set ?_ GE144.out | refine below_set ?_ GE145.out | refine below_set ?_ GE146.out) | exact HB.out)⟩
            · replace c60 := Bool.eq_false_iff.mpr c60
              subst c60
              have H1 : ((decanterlaw16_Of.f kj24 a2_0 a2_1 l2_2 a2_3 a2_4 a2_5).bind fun bt156 => ((caps_Over.f a0_0 a0_1 a0_2 a0_3 a0_4 a1_0 a1_1 a1_2 bt156.1 bt156.2.1 bt156.2.2.1 bt156.2.2.2.1 bt156.2.2.2.2.1 bt156.2.2.2.2.2).bind fun t166 => (if t166 = 0 then ((caps_Over.f a0_0 (wrap64 (a0_1 + (wrap64 (a3)))) (wrap64 (a0_2 + (wrap64 (a3)))) (wrap64 (a0_3 + (wrap64 (a3)))) (wrap64 (a0_4 + (wrap64 (a3)))) a1_0 a1_1 a1_2 bt156.1 bt156.2.1 bt156.2.2.1 bt156.2.2.2.1 bt156.2.2.2.2.1 bt156.2.2.2.2.2).bind fun t167 => (decanterlaw23_CapsMore.j2 kj24 (wrap64 (a3)) (t167 != 0) a1_0 a1_1 a1_2 bt156.1 bt156.2.1 bt156.2.2.1 bt156.2.2.2.1 bt156.2.2.2.2.1 bt156.2.2.2.2.2)) else (decanterlaw23_CapsMore.j2 kj24 (wrap64 (a3)) false a1_0 a1_1 a1_2 bt156.1 bt156.2.1 bt156.2.2.1 bt156.2.2.2.1 bt156.2.2.2.2.1 bt156.2.2.2.2.2)))) = some r := by rw [if_neg (show ¬ (false = true) by decide)] at H; exact H
              clear H
              have H := H1
              clear H1
              replace H := Option.bind_eq_some_iff.mp H
              obtain ⟨⟨t156, t157, t158, t161, t162, t163⟩, A630, H⟩ := H
              replace H : ((caps_Over.f a0_0 a0_1 a0_2 a0_3 a0_4 a1_0 a1_1 a1_2 t156 t157 t158 t161 t162 t163).bind fun t166 => (if t166 = 0 then ((caps_Over.f a0_0 (wrap64 (a0_1 + (wrap64 (a3)))) (wrap64 (a0_2 + (wrap64 (a3)))) (wrap64 (a0_3 + (wrap64 (a3)))) (wrap64 (a0_4 + (wrap64 (a3)))) a1_0 a1_1 a1_2 t156 t157 t158 t161 t162 t163).bind fun t167 => (decanterlaw23_CapsMore.j2 kj24 (wrap64 (a3)) (t167 != 0) a1_0 a1_1 a1_2 t156 t157 t158 t161 t162 t163)) else (decanterlaw23_CapsMore.j2 kj24 (wrap64 (a3)) false a1_0 a1_1 a1_2 t156 t157 t158 t161 t162 t163))) = some r := H
              have A63 := Aside0.mk A630
              clear A630
              have HC64 := Aside0.mk H
              clear H
              have hnb65 := NB146_144.out
              have hnc65 := NB144_146.out
              have hnb66 := NB146_145.out
              have hnc66 := NB145_146.out
              have hcz67_0 : wc.cell? ⟨gb146, 0, none⟩ = some (.int .i64 a2_0) := (blk_cell BK146.out 0).trans rfl
              have hcz67_1 : wc.cell? ⟨gb146, 1, none⟩ = some (.string a2_1) := (blk_cell BK146.out 1).trans rfl
              have hcz67_2 : wc.cell? ⟨gb146, 2, none⟩ = some (.slice A2_2 l2_2.length c2_2) := (blk_cell BK146.out 2).trans rfl
              have hcz67_3 : wc.cell? ⟨gb146, 3, none⟩ = some (.string a2_3) := (blk_cell BK146.out 3).trans rfl
              have hcz67_4 : wc.cell? ⟨gb146, 4, none⟩ = some (.int .i64 a2_4) := (blk_cell BK146.out 4).trans rfl
              have hcz67_5 : wc.cell? ⟨gb146, 5, none⟩ = some (.int .i64 a2_5) := (blk_cell BK146.out 5).trans rfl
              have hfz67_0 := blk_frozen BK146.out 0
              have hfz67_1 := blk_frozen BK146.out 1
              have hfz67_2 := blk_frozen BK146.out 2
              have hfz67_3 := blk_frozen BK146.out 3
              have hfz67_4 := blk_frozen BK146.out 4
              have hfz67_5 := blk_frozen BK146.out 5
              go_upto_region 12 with (first | ((with_reducible refine gate_callee (f := 10) rfl ?_); refine goesL_ (some 66) rfl rfl Tryd.func10 (by kernel_rfl) rfl #[.agg #[.int .i64 a2_0, .string a2_1, .slice A2_2 l2_2.length c2_2, .string a2_3, .int .i64 a2_4, .int .i64 a2_5]] rfl (by (try simp only [List.map_toArray, List.map_cons, List.map_nil]); first | done | rfl | (simp only [List.length_drop, List.length_take]; rfl)) ?_; (with_reducible refine (decanterlaw16_Of.calls kj24 a2_0 a2_1 _ _ l2_2 a2_3 a2_4 a2_5 t156 t157 t158 t161 t162 t163 _ ?side1 ?side2 A63.out).mono ?_); (case side1 => repeat (first | exact (Kd.C_below HR2_2.out HB.out) | (with_reducible refine Kd.C_alloc ?_ _) | (with_reducible refine Kd.C_drewN ?_ _) | (with_reducible refine Kd.C_drew ?_))); (case side2 => exact HC2_2.out); rintro e w68 ⟨v159, rfl, ho0, hb⟩; refine ⟨_, rfl, ?_⟩; have n0_ := Aside0.mk (Kd.R_lower ho0 (below_size (by repeat (first | (with_reducible first | exact HB.out | apply below_alloc | apply pw_below_drewN | apply below_drew1 | refine below_set ?_ GE144.out | refine below_set ?_ GE145.out | refine below_set ?_ GE146.out) | exact HB.out)))); have n1_ := Aside0.mk (blk_below (g := gb144) (o := .cells #[.int .i64 a0_0, .int .i64 a0_1, .int .i64 a0_2, .int .i64 a0_3, .int .i64 a0_4] 23 (0, 0)) (by (with_reducible repeat (first | refine blk_drewN ?_ _ | refine blk_drew ?_ | refine blk_alloc ?_ _)); exact BK144.out) hb); have n2_ := Aside0.mk (blk_below (g := gb145) (o := .cells #[.int .i64 a1_0, .int .i64 a1_1, .int .i64 a1_2] 25 (0, 0)) (by (with_reducible repeat (first | refine blk_drewN ?_ _ | refine blk_drew ?_ | refine blk_alloc ?_ _)); exact BK145.out) hb); have n3_ := Aside0.mk (blk_below (g := gb146) (o := .cells #[.int .i64 a2_0, .string a2_1, .slice A2_2 l2_2.length c2_2, .string a2_3, .int .i64 a2_4, .int .i64 a2_5] 28 (0, 0)) (by (with_reducible repeat (first | refine blk_drewN ?_ _ | refine blk_drew ?_ | refine blk_alloc ?_ _)); exact BK146.out) hb); have n4_ := Aside0.mk (below_step (by repeat (first | (with_reducible first | exact HB.out | apply below_alloc | apply pw_below_drewN | apply below_drew1 | refine below_set ?_ GE144.out | refine below_set ?_ GE145.out | refine below_set ?_ GE146.out) | exact HB.out)) hb); clear BK144; clear BK145; clear BK146; clear HB; have HO160 := n0_; have BK144 := n1_; have BK145 := n2_; have BK146 := n3_; have HB := n4_; clear n0_ n1_ n2_ n3_ n4_; (try clear hb); (try clear hb2); (try clear hk); (try clear hi); (try clear ho0)) | ((with_reducible refine gate_dst (N := 11) rfl ?_); (try (refine gate_guard (by rfl) ?_; dsimp only)); refine box_event ?hg (N := 11) ?hd (cs := #[.int .i64 0, .string (⟨#[]⟩ : ByteArray), .slice none 0 0, .string (⟨#[]⟩ : ByteArray), .int .i64 0, .int .i64 0]) (t := 37) ?hr ?_; (case hd => rfl); (case hg => rfl); (case hr => first | (go_simp; done) | (go_simp; rfl)); intro gb164 hg w69 hbox hb; have n0_ := Aside0.mk (Kd.R_below (by (with_reducible repeat (first | apply Kd.R_alloc | apply Kd.R_drewN | apply Kd.R_drew)); exact HO160.out) hb); have n1_ := Aside0.mk (blk_below (g := gb144) (o := .cells #[.int .i64 a0_0, .int .i64 a0_1, .int .i64 a0_2, .int .i64 a0_3, .int .i64 a0_4] 23 (0, 0)) (by (with_reducible repeat (first | refine blk_drewN ?_ _ | refine blk_drew ?_ | refine blk_alloc ?_ _)); exact BK144.out) hb); have n2_ := Aside0.mk (blk_below (g := gb145) (o := .cells #[.int .i64 a1_0, .int .i64 a1_1, .int .i64 a1_2] 25 (0, 0)) (by (with_reducible repeat (first | refine blk_drewN ?_ _ | refine blk_drew ?_ | refine blk_alloc ?_ _)); exact BK145.out) hb); have n3_ := Aside0.mk (blk_below (g := gb146) (o := .cells #[.int .i64 a2_0, .string a2_1, .slice A2_2 l2_2.length c2_2, .string a2_3, .int .i64 a2_4, .int .i64 a2_5] 28 (0, 0)) (by (with_reducible repeat (first | refine blk_drewN ?_ _ | refine blk_drew ?_ | refine blk_alloc ?_ _)); exact BK146.out) hb); have n4_ := Aside0.mk (below_step (by repeat (first | (with_reducible first | exact HB.out | apply below_alloc | apply pw_below_drewN | apply below_drew1 | refine below_set ?_ GE144.out | refine below_set ?_ GE145.out | refine below_set ?_ GE146.out) | exact HB.out)) hb); have n5_ := Aside0.mk (hbox); have n6_ := Aside0.mk ((by rw [hg]; exact (below_size (by repeat (first | (with_reducible first | exact HB.out | apply below_alloc | apply pw_below_drewN | apply below_drew1 | refine below_set ?_ GE144.out | refine below_set ?_ GE145.out | refine below_set ?_ GE146.out) | exact HB.out))) : w.heap.size ≤ gb164)); have n7_ := Aside0.mk ((by rw [hg]; exact (below_size (by repeat (first | (with_reducible first | exact HB.out | apply below_alloc | apply pw_below_drewN | apply below_drew1 | refine below_set ?_ GE144.out | refine below_set ?_ GE145.out | refine below_set ?_ GE146.out) | exact HB.out))) : w.heap.size ≤ gb164)); have n8_ := Aside0.mk ((by rw [hg]; exact Nat.ne_of_lt (blk_lt (g := gb144) (o := .cells #[.int .i64 a0_0, .int .i64 a0_1, .int .i64 a0_2, .int .i64 a0_3, .int .i64 a0_4] 23 (0, 0)) (by (with_reducible repeat (first | refine blk_drewN ?_ _ | refine blk_drew ?_ | refine blk_alloc ?_ _)); exact BK144.out)) : gb144 ≠ gb164)); have n9_ := Aside0.mk ((by rw [hg]; exact Nat.ne_of_gt (blk_lt (g := gb144) (o := .cells #[.int .i64 a0_0, .int .i64 a0_1, .int .i64 a0_2, .int .i64 a0_3, .int .i64 a0_4] 23 (0, 0)) (by (with_reducible repeat (first | refine blk_drewN ?_ _ | refine blk_drew ?_ | refine blk_alloc ?_ _)); exact BK144.out)) : gb164 ≠ gb144)); have n10_ := Aside0.mk ((by rw [hg]; exact Nat.ne_of_lt (blk_lt (g := gb145) (o := .cells #[.int .i64 a1_0, .int .i64 a1_1, .int .i64 a1_2] 25 (0, 0)) (by (with_reducible repeat (first | refine blk_drewN ?_ _ | refine blk_drew ?_ | refine blk_alloc ?_ _)); exact BK145.out)) : gb145 ≠ gb164)); have n11_ := Aside0.mk ((by rw [hg]; exact Nat.ne_of_gt (blk_lt (g := gb145) (o := .cells #[.int .i64 a1_0, .int .i64 a1_1, .int .i64 a1_2] 25 (0, 0)) (by (with_reducible repeat (first | refine blk_drewN ?_ _ | refine blk_drew ?_ | refine blk_alloc ?_ _)); exact BK145.out)) : gb164 ≠ gb145)); have n12_ := Aside0.mk ((by rw [hg]; exact Nat.ne_of_lt (blk_lt (g := gb146) (o := .cells #[.int .i64 a2_0, .string a2_1, .slice A2_2 l2_2.length c2_2, .string a2_3, .int .i64 a2_4, .int .i64 a2_5] 28 (0, 0)) (by (with_reducible repeat (first | refine blk_drewN ?_ _ | refine blk_drew ?_ | refine blk_alloc ?_ _)); exact BK146.out)) : gb146 ≠ gb164)); have n13_ := Aside0.mk ((by rw [hg]; exact Nat.ne_of_gt (blk_lt (g := gb146) (o := .cells #[.int .i64 a2_0, .string a2_1, .slice A2_2 l2_2.length c2_2, .string a2_3, .int .i64 a2_4, .int .i64 a2_5] 28 (0, 0)) (by (with_reducible repeat (first | refine blk_drewN ?_ _ | refine blk_drew ?_ | refine blk_alloc ?_ _)); exact BK146.out)) : gb164 ≠ gb146)); clear HO160; clear BK144; clear BK145; clear BK146; clear HB; have HO160 := n0_; have BK144 := n1_; have BK145 := n2_; have BK146 := n3_; have HB := n4_; have BK164 := n5_; have GW164 := n6_; have GE164 := n7_; have NB144_164 := n8_; have NB164_144 := n9_; have NB145_164 := n10_; have NB164_145 := n11_; have NB146_164 := n12_; have NB164_146 := n13_; clear n0_ n1_ n2_ n3_ n4_ n5_ n6_ n7_ n8_ n9_ n10_ n11_ n12_ n13_; clear hb hbox hg; have hnb70 := NB164_144.out; have hnc70 := NB144_164.out; have hnb71 := NB164_145.out; have hnc71 := NB145_164.out; have hnb72 := NB164_146.out; have hnc72 := NB146_164.out; have hcz73_0 : w69.cell? ⟨gb164, 0, none⟩ = some (.int .i64 0) := (blk_cell BK164.out 0).trans rfl; have hcz73_1 : w69.cell? ⟨gb164, 1, none⟩ = some (.string (⟨#[]⟩ : ByteArray)) := (blk_cell BK164.out 1).trans rfl; have hcz73_2 : w69.cell? ⟨gb164, 2, none⟩ = some (.slice none 0 0) := (blk_cell BK164.out 2).trans rfl; have hcz73_3 : w69.cell? ⟨gb164, 3, none⟩ = some (.string (⟨#[]⟩ : ByteArray)) := (blk_cell BK164.out 3).trans rfl; have hcz73_4 : w69.cell? ⟨gb164, 4, none⟩ = some (.int .i64 0) := (blk_cell BK164.out 4).trans rfl; have hcz73_5 : w69.cell? ⟨gb164, 5, none⟩ = some (.int .i64 0) := (blk_cell BK164.out 5).trans rfl; have hfz73_0 := blk_frozen BK164.out 0; have hfz73_1 := blk_frozen BK164.out 1; have hfz73_2 := blk_frozen BK164.out 2; have hfz73_3 := blk_frozen BK164.out 3; have hfz73_4 := blk_frozen BK164.out 4; have hfz73_5 := blk_frozen BK164.out 5; obtain ⟨Ao74, co74, eo74⟩ := Kd.R_slice HO160.out; subst eo74; have hnb75 := NB144_145.out; have hnc75 := NB145_144.out; have hcz76_0 : w69.cell? ⟨gb144, 0, none⟩ = some (.int .i64 a0_0) := (blk_cell BK144.out 0).trans rfl; have hcz76_1 : w69.cell? ⟨gb144, 1, none⟩ = some (.int .i64 a0_1) := (blk_cell BK144.out 1).trans rfl; have hcz76_2 : w69.cell? ⟨gb144, 2, none⟩ = some (.int .i64 a0_2) := (blk_cell BK144.out 2).trans rfl; have hcz76_3 : w69.cell? ⟨gb144, 3, none⟩ = some (.int .i64 a0_3) := (blk_cell BK144.out 3).trans rfl; have hcz76_4 : w69.cell? ⟨gb144, 4, none⟩ = some (.int .i64 a0_4) := (blk_cell BK144.out 4).trans rfl; have hfz76_0 := blk_frozen BK144.out 0; have hfz76_1 := blk_frozen BK144.out 1; have hfz76_2 := blk_frozen BK144.out 2; have hfz76_3 := blk_frozen BK144.out 3; have hfz76_4 := blk_frozen BK144.out 4) | ((with_reducible refine gate_dst (N := 13) rfl ?_); (try (refine gate_guard (by rfl) ?_; dsimp only)); refine box_event ?hg (N := 13) ?hd (cs := #[.int .i64 0, .int .i64 0, .int .i64 0, .int .i64 0, .int .i64 0]) (t := 32) ?hr ?_; (case hd => rfl); (case hg => rfl); (case hr => first | (go_simp; done) | (go_simp; rfl)); intro gb165 hg w77 hbox hb; have n0_ := Aside0.mk (Kd.R_below (by (with_reducible repeat (first | apply Kd.R_alloc | apply Kd.R_drewN | apply Kd.R_drew)); exact (Kd.R_mono (Kd.R_far (p := ⟨gb164, 5, none⟩) (Kd.R_far (p := ⟨gb164, 4, none⟩) (Kd.R_far (p := ⟨gb164, 3, none⟩) (Kd.R_far (p := ⟨gb164, 2, none⟩) (Kd.R_far (p := ⟨gb164, 1, none⟩) (Kd.R_far (p := ⟨gb164, 0, none⟩) (Kd.R_types HO160.out BK164.out (by decide)) (fun _ hk => hk.2) (.int .i64 t156)) (fun _ hk => hk.2) (.string t157)) (fun _ hk => hk.2) (.slice Ao74 t158.length co74)) (fun _ hk => hk.2) (.string t161)) (fun _ hk => hk.2) (.int .i64 t162)) (fun _ hk => hk.2) (.int .i64 t163)) (fun _ h_ => h_.1))) hb); have n1_ := Aside0.mk (blk_below (g := gb144) (o := .cells #[.int .i64 a0_0, .int .i64 a0_1, .int .i64 a0_2, .int .i64 a0_3, .int .i64 a0_4] 23 (0, 0)) (by (with_reducible repeat (first | refine blk_drewN ?_ _ | refine blk_drew ?_ | refine blk_alloc ?_ _)); refine blk_far ?_ NB144_164.out _; (with_reducible repeat (first | refine blk_drewN ?_ _ | refine blk_drew ?_ | refine blk_alloc ?_ _)); refine blk_far ?_ NB144_164.out _; (with_reducible repeat (first | refine blk_drewN ?_ _ | refine blk_drew ?_ | refine blk_alloc ?_ _)); refine blk_far ?_ NB144_164.out _; (with_reducible repeat (first | refine blk_drewN ?_ _ | refine blk_drew ?_ | refine blk_alloc ?_ _)); refine blk_far ?_ NB144_164.out _; (with_reducible repeat (first | refine blk_drewN ?_ _ | refine blk_drew ?_ | refine blk_alloc ?_ _)); refine blk_far ?_ NB144_164.out _; (with_reducible repeat (first | refine blk_drewN ?_ _ | refine blk_drew ?_ | refine blk_alloc ?_ _)); refine blk_far ?_ NB144_164.out _; (with_reducible repeat (first | refine blk_drewN ?_ _ | refine blk_drew ?_ | refine blk_alloc ?_ _)); exact BK144.out) hb); have n2_ := Aside0.mk (blk_below (g := gb145) (o := .cells #[.int .i64 a1_0, .int .i64 a1_1, .int .i64 a1_2] 25 (0, 0)) (by (with_reducible repeat (first | refine blk_drewN ?_ _ | refine blk_drew ?_ | refine blk_alloc ?_ _)); refine blk_far ?_ NB145_164.out _; (with_reducible repeat (first | refine blk_drewN ?_ _ | refine blk_drew ?_ | refine blk_alloc ?_ _)); refine blk_far ?_ NB145_164.out _; (with_reducible repeat (first | refine blk_drewN ?_ _ | refine blk_drew ?_ | refine blk_alloc ?_ _)); refine blk_far ?_ NB145_164.out _; (with_reducible repeat (first | refine blk_drewN ?_ _ | refine blk_drew ?_ | refine blk_alloc ?_ _)); refine blk_far ?_ NB145_164.out _; (with_reducible repeat (first | refine blk_drewN ?_ _ | refine blk_drew ?_ | refine blk_alloc ?_ _)); refine blk_far ?_ NB145_164.out _; (with_reducible repeat (first | refine blk_drewN ?_ _ | refine blk_drew ?_ | refine blk_alloc ?_ _)); refine blk_far ?_ NB145_164.out _; (with_reducible repeat (first | refine blk_drewN ?_ _ | refine blk_drew ?_ | refine blk_alloc ?_ _)); exact BK145.out) hb); have n3_ := Aside0.mk (blk_below (g := gb146) (o := .cells #[.int .i64 a2_0, .string a2_1, .slice A2_2 l2_2.length c2_2, .string a2_3, .int .i64 a2_4, .int .i64 a2_5] 28 (0, 0)) (by (with_reducible repeat (first | refine blk_drewN ?_ _ | refine blk_drew ?_ | refine blk_alloc ?_ _)); refine blk_far ?_ NB146_164.out _; (with_reducible repeat (first | refine blk_drewN ?_ _ | refine blk_drew ?_ | refine blk_alloc ?_ _)); refine blk_far ?_ NB146_164.out _; (with_reducible repeat (first | refine blk_drewN ?_ _ | refine blk_drew ?_ | refine blk_alloc ?_ _)); refine blk_far ?_ NB146_164.out _; (with_reducible repeat (first | refine blk_drewN ?_ _ | refine blk_drew ?_ | refine blk_alloc ?_ _)); refine blk_far ?_ NB146_164.out _; (with_reducible repeat (first | refine blk_drewN ?_ _ | refine blk_drew ?_ | refine blk_alloc ?_ _)); refine blk_far ?_ NB146_164.out _; (with_reducible repeat (first | refine blk_drewN ?_ _ | refine blk_drew ?_ | refine blk_alloc ?_ _)); refine blk_far ?_ NB146_164.out _; (with_reducible repeat (first | refine blk_drewN ?_ _ | refine blk_drew ?_ | refine blk_alloc ?_ _)); exact BK146.out) hb); have n4_ := Aside0.mk (blk_below (g := gb164) (o := .cells #[.int .i64 t156, .string t157, .slice Ao74 t158.length co74, .string t161, .int .i64 t162, .int .i64 t163] 37 (0, 0)) (by (with_reducible repeat (first | refine blk_drewN ?_ _ | refine blk_drew ?_ | refine blk_alloc ?_ _)); refine blk_put (cs := #[.int .i64 t156, .string t157, .slice Ao74 t158.length co74, .string t161, .int .i64 t162, .int .i64 0]) ?_ 5 _ rfl; (with_reducible repeat (first | refine blk_drewN ?_ _ | refine blk_drew ?_ | refine blk_alloc ?_ _)); refine blk_put (cs := #[.int .i64 t156, .string t157, .slice Ao74 t158.length co74, .string t161, .int .i64 0, .int .i64 0]) ?_ 4 _ rfl; (with_reducible repeat (first | refine blk_drewN ?_ _ | refine blk_drew ?_ | refine blk_alloc ?_ _)); refine blk_put (cs := #[.int .i64 t156, .string t157, .slice Ao74 t158.length co74, .string (⟨#[]⟩ : ByteArray), .int .i64 0, .int .i64 0]) ?_ 3 _ rfl; (with_reducible repeat (first | refine blk_drewN ?_ _ | refine blk_drew ?_ | refine blk_alloc ?_ _)); refine blk_put (cs := #[.int .i64 t156, .string t157, .slice none 0 0, .string (⟨#[]⟩ : ByteArray), .int .i64 0, .int .i64 0]) ?_ 2 _ rfl; (with_reducible repeat (first | refine blk_drewN ?_ _ | refine blk_drew ?_ | refine blk_alloc ?_ _)); refine blk_put (cs := #[.int .i64 t156, .string (⟨#[]⟩ : ByteArray), .slice none 0 0, .string (⟨#[]⟩ : ByteArray), .int .i64 0, .int .i64 0]) ?_ 1 _ rfl; (with_reducible repeat (first | refine blk_drewN ?_ _ | refine blk_drew ?_ | refine blk_alloc ?_ _)); refine blk_put (cs := #[.int .i64 0, .string (⟨#[]⟩ : ByteArray), .slice none 0 0, .string (⟨#[]⟩ : ByteArray), .int .i64 0, .int .i64 0]) ?_ 0 _ rfl; (with_reducible repeat (first | refine blk_drewN ?_ _ | refine blk_drew ?_ | refine blk_alloc ?_ _)); exact BK164.out) hb); have n5_ := Aside0.mk (below_step (by repeat (first | (with_reducible first | exact HB.out | apply below_alloc | apply pw_below_drewN | apply below_drew1 | refine below_set ?_ GE144.out | refine below_set ?_ GE145.out | refine below_set ?_ GE146.out | refine below_set ?_ GE164.out) | exact HB.out)) hb); have n6_ := Aside0.mk (hbox); have n7_ := Aside0.mk ((by rw [hg]; exact (below_size (by repeat (first | (with_reducible first | exact HB.out | apply below_alloc | apply pw_below_drewN | apply below_drew1 | refine below_set ?_ GE144.out | refine below_set ?_ GE145.out | refine below_set ?_ GE146.out | refine below_set ?_ GE164.out) | exact HB.out))) : w.heap.size ≤ gb165)); have n8_ := Aside0.mk ((by rw [hg]; exact (below_size (by repeat (first | (with_reducible first | exact HB.out | apply below_alloc | apply pw_below_drewN | apply below_drew1 | refine below_set ?_ GE144.out | refine below_set ?_ GE145.out | refine below_set ?_ GE146.out | refine below_set ?_ GE164.out) | exact HB.out))) : w.heap.size ≤ gb165)); have n9_ := Aside0.mk ((by rw [hg]; exact Nat.ne_of_lt (blk_lt (g := gb144) (o := .cells #[.int .i64 a0_0, .int .i64 a0_1, .int .i64 a0_2, .int .i64 a0_3, .int .i64 a0_4] 23 (0, 0)) (by (with_reducible repeat (first | refine blk_drewN ?_ _ | refine blk_drew ?_ | refine blk_alloc ?_ _)); refine blk_far ?_ NB144_164.out _; (with_reducible repeat (first | refine blk_drewN ?_ _ | refine blk_drew ?_ | refine blk_alloc ?_ _)); refine blk_far ?_ NB144_164.out _; (with_reducible repeat (first | refine blk_drewN ?_ _ | refine blk_drew ?_ | refine blk_alloc ?_ _)); refine blk_far ?_ NB144_164.out _; (with_reducible repeat (first | refine blk_drewN ?_ _ | refine blk_drew ?_ | refine blk_alloc ?_ _)); refine blk_far ?_ NB144_164.out _; (with_reducible repeat (first | refine blk_drewN ?_ _ | refine blk_drew ?_ | refine blk_alloc ?_ _)); refine blk_far ?_ NB144_164.out _; (with_reducible repeat (first | refine blk_drewN ?_ _ | refine blk_drew ?_ | refine blk_alloc ?_ _)); refine blk_far ?_ NB144_164.out _; (with_reducible repeat (first | refine blk_drewN ?_ _ | refine blk_drew ?_ | refine blk_alloc ?_ _)); exact BK144.out)) : gb144 ≠ gb165)); have n10_ := Aside0.mk ((by rw [hg]; exact Nat.ne_of_gt (blk_lt (g := gb144) (o := .cells #[.int .i64 a0_0, .int .i64 a0_1, .int .i64 a0_2, .int .i64 a0_3, .int .i64 a0_4] 23 (0, 0)) (by (with_reducible repeat (first | refine blk_drewN ?_ _ | refine blk_drew ?_ | refine blk_alloc ?_ _)); refine blk_far ?_ NB144_164.out _; (with_reducible repeat (first | refine blk_drewN ?_ _ | refine blk_drew ?_ | refine blk_alloc ?_ _)); refine blk_far ?_ NB144_164.out _; (with_reducible repeat (first | refine blk_drewN ?_ _ | refine blk_drew ?_ | refine blk_alloc ?_ _)); refine blk_far ?_ NB144_164.out _; (with_reducible repeat (first | refine blk_drewN ?_ _ | refine blk_drew ?_ | refine blk_alloc ?_ _)); refine blk_far ?_ NB144_164.out _; (with_reducible repeat (first | refine blk_drewN ?_ _ | refine blk_drew ?_ | refine blk_alloc ?_ _)); refine blk_far ?_ NB144_164.out _; (with_reducible repeat (first | refine blk_drewN ?_ _ | refine blk_drew ?_ | refine blk_alloc ?_ _)); refine blk_far ?_ NB144_164.out _; (with_reducible repeat (first | refine blk_drewN ?_ _ | refine blk_drew ?_ | refine blk_alloc ?_ _)); exact BK144.out)) : gb165 ≠ gb144)); have n11_ := Aside0.mk ((by rw [hg]; exact Nat.ne_of_lt (blk_lt (g := gb145) (o := .cells #[.int .i64 a1_0, .int .i64 a1_1, .int .i64 a1_2] 25 (0, 0)) (by (with_reducible repeat (first | refine blk_drewN ?_ _ | refine blk_drew ?_ | refine blk_alloc ?_ _)); refine blk_far ?_ NB145_164.out _; (with_reducible repeat (first | refine blk_drewN ?_ _ | refine blk_drew ?_ | refine blk_alloc ?_ _)); refine blk_far ?_ NB145_164.out _; (with_reducible repeat (first | refine blk_drewN ?_ _ | refine blk_drew ?_ | refine blk_alloc ?_ _)); refine blk_far ?_ NB145_164.out _; (with_reducible repeat (first | refine blk_drewN ?_ _ | refine blk_drew ?_ | refine blk_alloc ?_ _)); refine blk_far ?_ NB145_164.out _; (with_reducible repeat (first | refine blk_drewN ?_ _ | refine blk_drew ?_ | refine blk_alloc ?_ _)); refine blk_far ?_ NB145_164.out _; (with_reducible repeat (first | refine blk_drewN ?_ _ | refine blk_drew ?_ | refine blk_alloc ?_ _)); refine blk_far ?_ NB145_164.out _; (with_reducible repeat (first | refine blk_drewN ?_ _ | refine blk_drew ?_ | refine blk_alloc ?_ _)); exact BK145.out)) : gb145 ≠ gb165)); have n12_ := Aside0.mk ((by rw [hg]; exact Nat.ne_of_gt (blk_lt (g := gb145) (o := .cells #[.int .i64 a1_0, .int .i64 a1_1, .int .i64 a1_2] 25 (0, 0)) (by (with_reducible repeat (first | refine blk_drewN ?_ _ | refine blk_drew ?_ | refine blk_alloc ?_ _)); refine blk_far ?_ NB145_164.out _; (with_reducible repeat (first | refine blk_drewN ?_ _ | refine blk_drew ?_ | refine blk_alloc ?_ _)); refine blk_far ?_ NB145_164.out _; (with_reducible repeat (first | refine blk_drewN ?_ _ | refine blk_drew ?_ | refine blk_alloc ?_ _)); refine blk_far ?_ NB145_164.out _; (with_reducible repeat (first | refine blk_drewN ?_ _ | refine blk_drew ?_ | refine blk_alloc ?_ _)); refine blk_far ?_ NB145_164.out _; (with_reducible repeat (first | refine blk_drewN ?_ _ | refine blk_drew ?_ | refine blk_alloc ?_ _)); refine blk_far ?_ NB145_164.out _; (with_reducible repeat (first | refine blk_drewN ?_ _ | refine blk_drew ?_ | refine blk_alloc ?_ _)); refine blk_far ?_ NB145_164.out _; (with_reducible repeat (first | refine blk_drewN ?_ _ | refine blk_drew ?_ | refine blk_alloc ?_ _)); exact BK145.out)) : gb165 ≠ gb145)); have n13_ := Aside0.mk ((by rw [hg]; exact Nat.ne_of_lt (blk_lt (g := gb146) (o := .cells #[.int .i64 a2_0, .string a2_1, .slice A2_2 l2_2.length c2_2, .string a2_3, .int .i64 a2_4, .int .i64 a2_5] 28 (0, 0)) (by (with_reducible repeat (first | refine blk_drewN ?_ _ | refine blk_drew ?_ | refine blk_alloc ?_ _)); refine blk_far ?_ NB146_164.out _; (with_reducible repeat (first | refine blk_drewN ?_ _ | refine blk_drew ?_ | refine blk_alloc ?_ _)); refine blk_far ?_ NB146_164.out _; (with_reducible repeat (first | refine blk_drewN ?_ _ | refine blk_drew ?_ | refine blk_alloc ?_ _)); refine blk_far ?_ NB146_164.out _; (with_reducible repeat (first | refine blk_drewN ?_ _ | refine blk_drew ?_ | refine blk_alloc ?_ _)); refine blk_far ?_ NB146_164.out _; (with_reducible repeat (first | refine blk_drewN ?_ _ | refine blk_drew ?_ | refine blk_alloc ?_ _)); refine blk_far ?_ NB146_164.out _; (with_reducible repeat (first | refine blk_drewN ?_ _ | refine blk_drew ?_ | refine blk_alloc ?_ _)); refine blk_far ?_ NB146_164.out _; (with_reducible repeat (first | refine blk_drewN ?_ _ | refine blk_drew ?_ | refine blk_alloc ?_ _)); exact BK146.out)) : gb146 ≠ gb165)); have n14_ := Aside0.mk ((by rw [hg]; exact Nat.ne_of_gt (blk_lt (g := gb146) (o := .cells #[.int .i64 a2_0, .string a2_1, .slice A2_2 l2_2.length c2_2, .string a2_3, .int .i64 a2_4, .int .i64 a2_5] 28 (0, 0)) (by (with_reducible repeat (first | refine blk_drewN ?_ _ | refine blk_drew ?_ | refine blk_alloc ?_ _)); refine blk_far ?_ NB146_164.out _; (with_reducible repeat (first | refine blk_drewN ?_ _ | refine blk_drew ?_ | refine blk_alloc ?_ _)); refine blk_far ?_ NB146_164.out _; (with_reducible repeat (first | refine blk_drewN ?_ _ | refine blk_drew ?_ | refine blk_alloc ?_ _)); refine blk_far ?_ NB146_164.out _; (with_reducible repeat (first | refine blk_drewN ?_ _ | refine blk_drew ?_ | refine blk_alloc ?_ _)); refine blk_far ?_ NB146_164.out _; (with_reducible repeat (first | refine blk_drewN ?_ _ | refine blk_drew ?_ | refine blk_alloc ?_ _)); refine blk_far ?_ NB146_164.out _; (with_reducible repeat (first | refine blk_drewN ?_ _ | refine blk_drew ?_ | refine blk_alloc ?_ _)); refine blk_far ?_ NB146_164.out _; (with_reducible repeat (first | refine blk_drewN ?_ _ | refine blk_drew ?_ | refine blk_alloc ?_ _)); exact BK146.out)) : gb165 ≠ gb146)); have n15_ := Aside0.mk ((by rw [hg]; exact Nat.ne_of_lt (blk_lt (g := gb164) (o := .cells #[.int .i64 t156, .string t157, .slice Ao74 t158.length co74, .string t161, .int .i64 t162, .int .i64 t163] 37 (0, 0)) (by (with_reducible repeat (first | refine blk_drewN ?_ _ | refine blk_drew ?_ | refine blk_alloc ?_ _)); refine blk_put (cs := #[.int .i64 t156, .string t157, .slice Ao74 t158.length co74, .string t161, .int .i64 t162, .int .i64 0]) ?_ 5 _ rfl; (with_reducible repeat (first | refine blk_drewN ?_ _ | refine blk_drew ?_ | refine blk_alloc ?_ _)); refine blk_put (cs := #[.int .i64 t156, .string t157, .slice Ao74 t158.length co74, .string t161, .int .i64 0, .int .i64 0]) ?_ 4 _ rfl; (with_reducible repeat (first | refine blk_drewN ?_ _ | refine blk_drew ?_ | refine blk_alloc ?_ _)); refine blk_put (cs := #[.int .i64 t156, .string t157, .slice Ao74 t158.length co74, .string (⟨#[]⟩ : ByteArray), .int .i64 0, .int .i64 0]) ?_ 3 _ rfl; (with_reducible repeat (first | refine blk_drewN ?_ _ | refine blk_drew ?_ | refine blk_alloc ?_ _)); refine blk_put (cs := #[.int .i64 t156, .string t157, .slice none 0 0, .string (⟨#[]⟩ : ByteArray), .int .i64 0, .int .i64 0]) ?_ 2 _ rfl; (with_reducible repeat (first | refine blk_drewN ?_ _ | refine blk_drew ?_ | refine blk_alloc ?_ _)); refine blk_put (cs := #[.int .i64 t156, .string (⟨#[]⟩ : ByteArray), .slice none 0 0, .string (⟨#[]⟩ : ByteArray), .int .i64 0, .int .i64 0]) ?_ 1 _ rfl; (with_reducible repeat (first | refine blk_drewN ?_ _ | refine blk_drew ?_ | refine blk_alloc ?_ _)); refine blk_put (cs := #[.int .i64 0, .string (⟨#[]⟩ : ByteArray), .slice none 0 0, .string (⟨#[]⟩ : ByteArray), .int .i64 0, .int .i64 0]) ?_ 0 _ rfl; (with_reducible repeat (first | refine blk_drewN ?_ _ | refine blk_drew ?_ | refine blk_alloc ?_ _)); exact BK164.out)) : gb164 ≠ gb165)); have n16_ := Aside0.mk ((by rw [hg]; exact Nat.ne_of_gt (blk_lt (g := gb164) (o := .cells #[.int .i64 t156, .string t157, .slice Ao74 t158.length co74, .string t161, .int .i64 t162, .int .i64 t163] 37 (0, 0)) (by (with_reducible repeat (first | refine blk_drewN ?_ _ | refine blk_drew ?_ | refine blk_alloc ?_ _)); refine blk_put (cs := #[.int .i64 t156, .string t157, .slice Ao74 t158.length co74, .string t161, .int .i64 t162, .int .i64 0]) ?_ 5 _ rfl; (with_reducible repeat (first | refine blk_drewN ?_ _ | refine blk_drew ?_ | refine blk_alloc ?_ _)); refine blk_put (cs := #[.int .i64 t156, .string t157, .slice Ao74 t158.length co74, .string t161, .int .i64 0, .int .i64 0]) ?_ 4 _ rfl; (with_reducible repeat (first | refine blk_drewN ?_ _ | refine blk_drew ?_ | refine blk_alloc ?_ _)); refine blk_put (cs := #[.int .i64 t156, .string t157, .slice Ao74 t158.length co74, .string (⟨#[]⟩ : ByteArray), .int .i64 0, .int .i64 0]) ?_ 3 _ rfl; (with_reducible repeat (first | refine blk_drewN ?_ _ | refine blk_drew ?_ | refine blk_alloc ?_ _)); refine blk_put (cs := #[.int .i64 t156, .string t157, .slice none 0 0, .string (⟨#[]⟩ : ByteArray), .int .i64 0, .int .i64 0]) ?_ 2 _ rfl; (with_reducible repeat (first | refine blk_drewN ?_ _ | refine blk_drew ?_ | refine blk_alloc ?_ _)); refine blk_put (cs := #[.int .i64 t156, .string (⟨#[]⟩ : ByteArray), .slice none 0 0, .string (⟨#[]⟩ : ByteArray), .int .i64 0, .int .i64 0]) ?_ 1 _ rfl; (with_reducible repeat (first | refine blk_drewN ?_ _ | refine blk_drew ?_ | refine blk_alloc ?_ _)); refine blk_put (cs := #[.int .i64 0, .string (⟨#[]⟩ : ByteArray), .slice none 0 0, .string (⟨#[]⟩ : ByteArray), .int .i64 0, .int .i64 0]) ?_ 0 _ rfl; (with_reducible repeat (first | refine blk_drewN ?_ _ | refine blk_drew ?_ | refine blk_alloc ?_ _)); exact BK164.out)) : gb165 ≠ gb164)); clear HO160; clear BK144; clear BK145; clear BK146; clear BK164; clear HB; have HO160 := n0_; have BK144 := n1_; have BK145 := n2_; have BK146 := n3_; have BK164 := n4_; have HB := n5_; have BK165 := n6_; have GW165 := n7_; have GE165 := n8_; have NB144_165 := n9_; have NB165_144 := n10_; have NB145_165 := n11_; have NB165_145 := n12_; have NB146_165 := n13_; have NB165_146 := n14_; have NB164_165 := n15_; have NB165_164 := n16_; clear n0_ n1_ n2_ n3_ n4_ n5_ n6_ n7_ n8_ n9_ n10_ n11_ n12_ n13_ n14_ n15_ n16_; clear hb hbox hg; have hnb78 := NB165_144.out; have hnc78 := NB144_165.out; have hnb79 := NB165_145.out; have hnc79 := NB145_165.out; have hnb80 := NB165_146.out; have hnc80 := NB146_165.out; have hnb81 := NB165_164.out; have hnc81 := NB164_165.out; have hcz82_0 : w77.cell? ⟨gb165, 0, none⟩ = some (.int .i64 0) := (blk_cell BK165.out 0).trans rfl; have hcz82_1 : w77.cell? ⟨gb165, 1, none⟩ = some (.int .i64 0) := (blk_cell BK165.out 1).trans rfl; have hcz82_2 : w77.cell? ⟨gb165, 2, none⟩ = some (.int .i64 0) := (blk_cell BK165.out 2).trans rfl; have hcz82_3 : w77.cell? ⟨gb165, 3, none⟩ = some (.int .i64 0) := (blk_cell BK165.out 3).trans rfl; have hcz82_4 : w77.cell? ⟨gb165, 4, none⟩ = some (.int .i64 0) := (blk_cell BK165.out 4).trans rfl; have hfz82_0 := blk_frozen BK165.out 0; have hfz82_1 := blk_frozen BK165.out 1; have hfz82_2 := blk_frozen BK165.out 2; have hfz82_3 := blk_frozen BK165.out 3; have hfz82_4 := blk_frozen BK165.out 4))
              (try simp only [Act.put, List.setIfInBounds_toArray, List.set_cons_zero, List.set_cons_succ])
              go_cut [99] (fun v99 wc => ∃ (kq : Nat) (x99_63 : Bool), v99 = .bool x99_63 ∧ Aside0 (decanterlaw23_CapsMore.j2 kq (wrap64 (a3)) x99_63 a1_0 a1_1 a1_2 t156 t157 t158 t161 t162 t163 = some r) ∧ Aside0 (kq ≤ kj24) ∧ Aside0 (Kd.R k92 92 wc w.heap.size (fun _ => True) (.slice Ao74 t158.length co74) t158) ∧ Aside0 (wc.heap[gb144]? = some (.cells #[.int .i64 a0_0, .int .i64 a0_1, .int .i64 a0_2, .int .i64 a0_3, .int .i64 a0_4] 23 (0, 0))) ∧ Aside0 (wc.heap[gb145]? = some (.cells #[.int .i64 a1_0, .int .i64 a1_1, .int .i64 a1_2] 25 (0, 0))) ∧ Aside0 (wc.heap[gb146]? = some (.cells #[.int .i64 a2_0, .string a2_1, (.slice A2_2 l2_2.length c2_2), .string a2_3, .int .i64 a2_4, .int .i64 a2_5] 28 (0, 0))) ∧ Aside0 (wc.heap[gb164]? = some (.cells #[.int .i64 t156, .string t157, (.slice Ao74 t158.length co74), .string t161, .int .i64 t162, .int .i64 t163] 37 (0, 0))) ∧ Aside0 (wc.heap[gb165]? = some (.cells #[.int .i64 a0_0, .int .i64 (wrap64 (a0_1 + (wrap64 (a3)))), .int .i64 (wrap64 (a0_2 + (wrap64 (a3)))), .int .i64 (wrap64 (a0_3 + (wrap64 (a3)))), .int .i64 (wrap64 (a0_4 + (wrap64 (a3))))] 32 (0, 0))) ∧ Aside0 (Below w.heap.size w wc))
              case first =>
                have H := HC64.out
                clear HC64
                replace H := Option.bind_eq_some_iff.mp H
                obtain ⟨t166, A830, H⟩ := H
                replace H : (if t166 = 0 then ((caps_Over.f a0_0 (wrap64 (a0_1 + (wrap64 (a3)))) (wrap64 (a0_2 + (wrap64 (a3)))) (wrap64 (a0_3 + (wrap64 (a3)))) (wrap64 (a0_4 + (wrap64 (a3)))) a1_0 a1_1 a1_2 t156 t157 t158 t161 t162 t163).bind fun t167 => (decanterlaw23_CapsMore.j2 kj24 (wrap64 (a3)) (t167 != 0) a1_0 a1_1 a1_2 t156 t157 t158 t161 t162 t163)) else (decanterlaw23_CapsMore.j2 kj24 (wrap64 (a3)) false a1_0 a1_1 a1_2 t156 t157 t158 t161 t162 t163)) = some r := H
                have A83 := Aside0.mk A830
                clear A830
                by_cases c84 : t166 = 0
                · rw [if_pos c84] at H
                  have c84b0 : (t166 == 0) = true := beq_iff_eq.mpr c84
                  have c84b1 : (t166 != 0) = false := bne_eq_false_iff_eq.mpr c84
                  clear c84
                  (first | rw [c84b0] | (simp only [i64_w, i32_w]; rw [c84b0]) | skip)
                  replace H := Option.bind_eq_some_iff.mp H
                  obtain ⟨t167, A850, H⟩ := H
                  replace H : (decanterlaw23_CapsMore.j2 kj24 (wrap64 (a3)) (t167 != 0) a1_0 a1_1 a1_2 t156 t157 t158 t161 t162 t163) = some r := H
                  have A85 := Aside0.mk A850
                  clear A850
                  have H' := Aside0.mk H
                  clear H
                  have hnb86 := NB144_145.out
                  have hnc86 := NB145_144.out
                  have hnb87 := NB144_146.out
                  have hnc87 := NB146_144.out
                  have hnb88 := NB144_164.out
                  have hnc88 := NB164_144.out
                  have hnb89 := NB144_165.out
                  have hnc89 := NB165_144.out
                  have hcz90_0 : w77.cell? ⟨gb144, 0, none⟩ = some (.int .i64 a0_0) := (blk_cell BK144.out 0).trans rfl
                  have hcz90_1 : w77.cell? ⟨gb144, 1, none⟩ = some (.int .i64 a0_1) := (blk_cell BK144.out 1).trans rfl
                  have hcz90_2 : w77.cell? ⟨gb144, 2, none⟩ = some (.int .i64 a0_2) := (blk_cell BK144.out 2).trans rfl
                  have hcz90_3 : w77.cell? ⟨gb144, 3, none⟩ = some (.int .i64 a0_3) := (blk_cell BK144.out 3).trans rfl
                  have hcz90_4 : w77.cell? ⟨gb144, 4, none⟩ = some (.int .i64 a0_4) := (blk_cell BK144.out 4).trans rfl
                  have hfz90_0 := blk_frozen BK144.out 0
                  have hfz90_1 := blk_frozen BK144.out 1
                  have hfz90_2 := blk_frozen BK144.out 2
                  have hfz90_3 := blk_frozen BK144.out 3
                  have hfz90_4 := blk_frozen BK144.out 4
                  have hnb91 := NB145_146.out
                  have hnc91 := NB146_145.out
                  have hnb92 := NB145_164.out
                  have hnc92 := NB164_145.out
                  have hnb93 := NB145_165.out
                  have hnc93 := NB165_145.out
                  have hcz94_0 : w77.cell? ⟨gb145, 0, none⟩ = some (.int .i64 a1_0) := (blk_cell BK145.out 0).trans rfl
                  have hcz94_1 : w77.cell? ⟨gb145, 1, none⟩ = some (.int .i64 a1_1) := (blk_cell BK145.out 1).trans rfl
                  have hcz94_2 : w77.cell? ⟨gb145, 2, none⟩ = some (.int .i64 a1_2) := (blk_cell BK145.out 2).trans rfl
                  have hfz94_0 := blk_frozen BK145.out 0
                  have hfz94_1 := blk_frozen BK145.out 1
                  have hfz94_2 := blk_frozen BK145.out 2
                  have hnb95 := NB164_146.out
                  have hnc95 := NB146_164.out
                  have hnb96 := NB164_165.out
                  have hnc96 := NB165_164.out
                  have hcz97_0 : w77.cell? ⟨gb164, 0, none⟩ = some (.int .i64 t156) := (blk_cell BK164.out 0).trans rfl
                  have hcz97_1 : w77.cell? ⟨gb164, 1, none⟩ = some (.string t157) := (blk_cell BK164.out 1).trans rfl
                  have hcz97_2 : w77.cell? ⟨gb164, 2, none⟩ = some (.slice Ao74 t158.length co74) := (blk_cell BK164.out 2).trans rfl
                  have hcz97_3 : w77.cell? ⟨gb164, 3, none⟩ = some (.string t161) := (blk_cell BK164.out 3).trans rfl
                  have hcz97_4 : w77.cell? ⟨gb164, 4, none⟩ = some (.int .i64 t162) := (blk_cell BK164.out 4).trans rfl
                  have hcz97_5 : w77.cell? ⟨gb164, 5, none⟩ = some (.int .i64 t163) := (blk_cell BK164.out 5).trans rfl
                  have hfz97_0 := blk_frozen BK164.out 0
                  have hfz97_1 := blk_frozen BK164.out 1
                  have hfz97_2 := blk_frozen BK164.out 2
                  have hfz97_3 := blk_frozen BK164.out 3
                  have hfz97_4 := blk_frozen BK164.out 4
                  have hfz97_5 := blk_frozen BK164.out 5
                  go_wp2_with (first | ((with_reducible refine gate_callee (f := 13) rfl ?_); refine goesL_ (some 91) rfl rfl Tryd.func13 (by kernel_rfl) rfl #[.agg #[.int .i64 a0_0, .int .i64 a0_1, .int .i64 a0_2, .int .i64 a0_3, .int .i64 a0_4], .agg #[.int .i64 a1_0, .int .i64 a1_1, .int .i64 a1_2], .agg #[.int .i64 t156, .string t157, .slice Ao74 t158.length co74, .string t161, .int .i64 t162, .int .i64 t163]] rfl (by (try simp only [List.map_toArray, List.map_cons, List.map_nil]); first | done | rfl | (simp only [List.length_drop, List.length_take]; rfl)) ?_; (with_reducible refine (caps_Over.calls a0_0 a0_1 a0_2 a0_3 a0_4 a1_0 a1_1 a1_2 t156 t157 _ _ t158 t161 t162 t163 t166 _ (Wok_below hW (by repeat (first | (with_reducible first | exact HB.out | apply below_alloc | apply pw_below_drewN | apply below_drew1 | refine below_set ?_ GE144.out | refine below_set ?_ GE145.out | refine below_set ?_ GE146.out | refine below_set ?_ GE164.out | refine below_set ?_ GE165.out) | exact HB.out))) ?side1 ?side2 A83.out).mono ?_); (case side1 => refine (Kd.R_reads' (e := 92) (base := w.heap.size) (ok := fun k_ => True) (n := t158.length) (c := co74) ?_).2.2; exact (by (with_reducible repeat (first | apply Kd.R_alloc | apply Kd.R_drewN | apply Kd.R_drew)); exact (Kd.R_mono (Kd.R_far (p := ⟨gb165, 4, none⟩) (Kd.R_far (p := ⟨gb165, 3, none⟩) (Kd.R_far (p := ⟨gb165, 2, none⟩) (Kd.R_far (p := ⟨gb165, 1, none⟩) (Kd.R_far (p := ⟨gb165, 0, none⟩) (Kd.R_types HO160.out BK165.out (by decide)) (fun _ hk => hk.2) (.int .i64 a0_0)) (fun _ hk => hk.2) (.int .i64 (wrap64 (a0_1 + (wrap64 (a3)))))) (fun _ hk => hk.2) (.int .i64 (wrap64 (a0_2 + (wrap64 (a3)))))) (fun _ hk => hk.2) (.int .i64 (wrap64 (a0_3 + (wrap64 (a3)))))) (fun _ hk => hk.2) (.int .i64 (wrap64 (a0_4 + (wrap64 (a3)))))) (fun _ h_ => h_.1)))); (case side2 => exact (Kd.R_reads' HO160.out).2.1); rintro e w98 ⟨rfl, hb⟩; refine ⟨_, rfl, ?_⟩; have n0_ := Aside0.mk (Kd.R_below (by (with_reducible repeat (first | apply Kd.R_alloc | apply Kd.R_drewN | apply Kd.R_drew)); exact (Kd.R_mono (Kd.R_far (p := ⟨gb165, 4, none⟩) (Kd.R_far (p := ⟨gb165, 3, none⟩) (Kd.R_far (p := ⟨gb165, 2, none⟩) (Kd.R_far (p := ⟨gb165, 1, none⟩) (Kd.R_far (p := ⟨gb165, 0, none⟩) (Kd.R_types HO160.out BK165.out (by decide)) (fun _ hk => hk.2) (.int .i64 a0_0)) (fun _ hk => hk.2) (.int .i64 (wrap64 (a0_1 + (wrap64 (a3)))))) (fun _ hk => hk.2) (.int .i64 (wrap64 (a0_2 + (wrap64 (a3)))))) (fun _ hk => hk.2) (.int .i64 (wrap64 (a0_3 + (wrap64 (a3)))))) (fun _ hk => hk.2) (.int .i64 (wrap64 (a0_4 + (wrap64 (a3)))))) (fun _ h_ => h_.1))) hb); have n1_ := Aside0.mk (blk_below (g := gb144) (o := .cells #[.int .i64 a0_0, .int .i64 a0_1, .int .i64 a0_2, .int .i64 a0_3, .int .i64 a0_4] 23 (0, 0)) (by (with_reducible repeat (first | refine blk_drewN ?_ _ | refine blk_drew ?_ | refine blk_alloc ?_ _)); refine blk_far ?_ NB144_165.out _; (with_reducible repeat (first | refine blk_drewN ?_ _ | refine blk_drew ?_ | refine blk_alloc ?_ _)); refine blk_far ?_ NB144_165.out _; (with_reducible repeat (first | refine blk_drewN ?_ _ | refine blk_drew ?_ | refine blk_alloc ?_ _)); refine blk_far ?_ NB144_165.out _; (with_reducible repeat (first | refine blk_drewN ?_ _ | refine blk_drew ?_ | refine blk_alloc ?_ _)); refine blk_far ?_ NB144_165.out _; (with_reducible repeat (first | refine blk_drewN ?_ _ | refine blk_drew ?_ | refine blk_alloc ?_ _)); refine blk_far ?_ NB144_165.out _; (with_reducible repeat (first | refine blk_drewN ?_ _ | refine blk_drew ?_ | refine blk_alloc ?_ _)); exact BK144.out) hb); have n2_ := Aside0.mk (blk_below (g := gb145) (o := .cells #[.int .i64 a1_0, .int .i64 a1_1, .int .i64 a1_2] 25 (0, 0)) (by (with_reducible repeat (first | refine blk_drewN ?_ _ | refine blk_drew ?_ | refine blk_alloc ?_ _)); refine blk_far ?_ NB145_165.out _; (with_reducible repeat (first | refine blk_drewN ?_ _ | refine blk_drew ?_ | refine blk_alloc ?_ _)); refine blk_far ?_ NB145_165.out _; (with_reducible repeat (first | refine blk_drewN ?_ _ | refine blk_drew ?_ | refine blk_alloc ?_ _)); refine blk_far ?_ NB145_165.out _; (with_reducible repeat (first | refine blk_drewN ?_ _ | refine blk_drew ?_ | refine blk_alloc ?_ _)); refine blk_far ?_ NB145_165.out _; (with_reducible repeat (first | refine blk_drewN ?_ _ | refine blk_drew ?_ | refine blk_alloc ?_ _)); refine blk_far ?_ NB145_165.out _; (with_reducible repeat (first | refine blk_drewN ?_ _ | refine blk_drew ?_ | refine blk_alloc ?_ _)); exact BK145.out) hb); have n3_ := Aside0.mk (blk_below (g := gb146) (o := .cells #[.int .i64 a2_0, .string a2_1, .slice A2_2 l2_2.length c2_2, .string a2_3, .int .i64 a2_4, .int .i64 a2_5] 28 (0, 0)) (by (with_reducible repeat (first | refine blk_drewN ?_ _ | refine blk_drew ?_ | refine blk_alloc ?_ _)); refine blk_far ?_ NB146_165.out _; (with_reducible repeat (first | refine blk_drewN ?_ _ | refine blk_drew ?_ | refine blk_alloc ?_ _)); refine blk_far ?_ NB146_165.out _; (with_reducible repeat (first | refine blk_drewN ?_ _ | refine blk_drew ?_ | refine blk_alloc ?_ _)); refine blk_far ?_ NB146_165.out _; (with_reducible repeat (first | refine blk_drewN ?_ _ | refine blk_drew ?_ | refine blk_alloc ?_ _)); refine blk_far ?_ NB146_165.out _; (with_reducible repeat (first | refine blk_drewN ?_ _ | refine blk_drew ?_ | refine blk_alloc ?_ _)); refine blk_far ?_ NB146_165.out _; (with_reducible repeat (first | refine blk_drewN ?_ _ | refine blk_drew ?_ | refine blk_alloc ?_ _)); exact BK146.out) hb); have n4_ := Aside0.mk (blk_below (g := gb164) (o := .cells #[.int .i64 t156, .string t157, .slice Ao74 t158.length co74, .string t161, .int .i64 t162, .int .i64 t163] 37 (0, 0)) (by (with_reducible repeat (first | refine blk_drewN ?_ _ | refine blk_drew ?_ | refine blk_alloc ?_ _)); refine blk_far ?_ NB164_165.out _; (with_reducible repeat (first | refine blk_drewN ?_ _ | refine blk_drew ?_ | refine blk_alloc ?_ _)); refine blk_far ?_ NB164_165.out _; (with_reducible repeat (first | refine blk_drewN ?_ _ | refine blk_drew ?_ | refine blk_alloc ?_ _)); refine blk_far ?_ NB164_165.out _; (with_reducible repeat (first | refine blk_drewN ?_ _ | refine blk_drew ?_ | refine blk_alloc ?_ _)); refine blk_far ?_ NB164_165.out _; (with_reducible repeat (first | refine blk_drewN ?_ _ | refine blk_drew ?_ | refine blk_alloc ?_ _)); refine blk_far ?_ NB164_165.out _; (with_reducible repeat (first | refine blk_drewN ?_ _ | refine blk_drew ?_ | refine blk_alloc ?_ _)); exact BK164.out) hb); have n5_ := Aside0.mk (blk_below (g := gb165) (o := .cells #[.int .i64 a0_0, .int .i64 (wrap64 (a0_1 + (wrap64 (a3)))), .int .i64 (wrap64 (a0_2 + (wrap64 (a3)))), .int .i64 (wrap64 (a0_3 + (wrap64 (a3)))), .int .i64 (wrap64 (a0_4 + (wrap64 (a3))))] 32 (0, 0)) (by (with_reducible repeat (first | refine blk_drewN ?_ _ | refine blk_drew ?_ | refine blk_alloc ?_ _)); refine blk_put (cs := #[.int .i64 a0_0, .int .i64 (wrap64 (a0_1 + (wrap64 (a3)))), .int .i64 (wrap64 (a0_2 + (wrap64 (a3)))), .int .i64 (wrap64 (a0_3 + (wrap64 (a3)))), .int .i64 0]) ?_ 4 _ rfl; (with_reducible repeat (first | refine blk_drewN ?_ _ | refine blk_drew ?_ | refine blk_alloc ?_ _)); refine blk_put (cs := #[.int .i64 a0_0, .int .i64 (wrap64 (a0_1 + (wrap64 (a3)))), .int .i64 (wrap64 (a0_2 + (wrap64 (a3)))), .int .i64 0, .int .i64 0]) ?_ 3 _ rfl; (with_reducible repeat (first | refine blk_drewN ?_ _ | refine blk_drew ?_ | refine blk_alloc ?_ _)); refine blk_put (cs := #[.int .i64 a0_0, .int .i64 (wrap64 (a0_1 + (wrap64 (a3)))), .int .i64 0, .int .i64 0, .int .i64 0]) ?_ 2 _ rfl; (with_reducible repeat (first | refine blk_drewN ?_ _ | refine blk_drew ?_ | refine blk_alloc ?_ _)); refine blk_put (cs := #[.int .i64 a0_0, .int .i64 0, .int .i64 0, .int .i64 0, .int .i64 0]) ?_ 1 _ rfl; (with_reducible repeat (first | refine blk_drewN ?_ _ | refine blk_drew ?_ | refine blk_alloc ?_ _)); refine blk_put (cs := #[.int .i64 0, .int .i64 0, .int .i64 0, .int .i64 0, .int .i64 0]) ?_ 0 _ rfl; (with_reducible repeat (first | refine blk_drewN ?_ _ | refine blk_drew ?_ | refine blk_alloc ?_ _)); exact BK165.out) hb); have n6_ := Aside0.mk (below_step (by repeat (first | (with_reducible first | exact HB.out | apply below_alloc | apply pw_below_drewN | apply below_drew1 | refine below_set ?_ GE144.out | refine below_set ?_ GE145.out | refine below_set ?_ GE146.out | refine below_set ?_ GE164.out | refine below_set ?_ GE165.out) | exact HB.out)) hb); clear HO160; clear BK144; clear BK145; clear BK146; clear BK164; clear BK165; clear HB; have HO160 := n0_; have BK144 := n1_; have BK145 := n2_; have BK146 := n3_; have BK164 := n4_; have BK165 := n5_; have HB := n6_; clear n0_ n1_ n2_ n3_ n4_ n5_ n6_; (try clear hb); (try clear hb2); (try clear hk); (try clear hi); have hnb99 := NB165_146.out; have hnc99 := NB146_165.out; have hcz100_0 : w98.cell? ⟨gb165, 0, none⟩ = some (.int .i64 a0_0) := (blk_cell BK165.out 0).trans rfl; have hcz100_1 : w98.cell? ⟨gb165, 1, none⟩ = some (.int .i64 (wrap64 (a0_1 + (wrap64 (a3))))) := (blk_cell BK165.out 1).trans rfl; have hcz100_2 : w98.cell? ⟨gb165, 2, none⟩ = some (.int .i64 (wrap64 (a0_2 + (wrap64 (a3))))) := (blk_cell BK165.out 2).trans rfl; have hcz100_3 : w98.cell? ⟨gb165, 3, none⟩ = some (.int .i64 (wrap64 (a0_3 + (wrap64 (a3))))) := (blk_cell BK165.out 3).trans rfl; have hcz100_4 : w98.cell? ⟨gb165, 4, none⟩ = some (.int .i64 (wrap64 (a0_4 + (wrap64 (a3))))) := (blk_cell BK165.out 4).trans rfl; have hfz100_0 := blk_frozen BK165.out 0; have hfz100_1 := blk_frozen BK165.out 1; have hfz100_2 := blk_frozen BK165.out 2; have hfz100_3 := blk_frozen BK165.out 3; have hfz100_4 := blk_frozen BK165.out 4; have hcz101_0 : w98.cell? ⟨gb145, 0, none⟩ = some (.int .i64 a1_0) := (blk_cell BK145.out 0).trans rfl; have hcz101_1 : w98.cell? ⟨gb145, 1, none⟩ = some (.int .i64 a1_1) := (blk_cell BK145.out 1).trans rfl; have hcz101_2 : w98.cell? ⟨gb145, 2, none⟩ = some (.int .i64 a1_2) := (blk_cell BK145.out 2).trans rfl; have hfz101_0 := blk_frozen BK145.out 0; have hfz101_1 := blk_frozen BK145.out 1; have hfz101_2 := blk_frozen BK145.out 2; have hcz102_0 : w98.cell? ⟨gb164, 0, none⟩ = some (.int .i64 t156) := (blk_cell BK164.out 0).trans rfl; have hcz102_1 : w98.cell? ⟨gb164, 1, none⟩ = some (.string t157) := (blk_cell BK164.out 1).trans rfl; have hcz102_2 : w98.cell? ⟨gb164, 2, none⟩ = some (.slice Ao74 t158.length co74) := (blk_cell BK164.out 2).trans rfl; have hcz102_3 : w98.cell? ⟨gb164, 3, none⟩ = some (.string t161) := (blk_cell BK164.out 3).trans rfl; have hcz102_4 : w98.cell? ⟨gb164, 4, none⟩ = some (.int .i64 t162) := (blk_cell BK164.out 4).trans rfl; have hcz102_5 : w98.cell? ⟨gb164, 5, none⟩ = some (.int .i64 t163) := (blk_cell BK164.out 5).trans rfl; have hfz102_0 := blk_frozen BK164.out 0; have hfz102_1 := blk_frozen BK164.out 1; have hfz102_2 := blk_frozen BK164.out 2; have hfz102_3 := blk_frozen BK164.out 3; have hfz102_4 := blk_frozen BK164.out 4; have hfz102_5 := blk_frozen BK164.out 5) | (go_at_call 13; (with_reducible refine (caps_Over.calls a0_0 (wrap64 (a0_1 + (wrap64 (a3)))) (wrap64 (a0_2 + (wrap64 (a3)))) (wrap64 (a0_3 + (wrap64 (a3)))) (wrap64 (a0_4 + (wrap64 (a3)))) a1_0 a1_1 a1_2 t156 t157 _ _ t158 t161 t162 t163 t167 _ (Wok_below hW (by repeat (first | (with_reducible first | exact HB.out | apply below_alloc | apply pw_below_drewN | apply below_drew1 | refine below_set ?_ GE144.out | refine below_set ?_ GE145.out | refine below_set ?_ GE146.out | refine below_set ?_ GE164.out | refine below_set ?_ GE165.out) | exact HB.out))) ?side1 ?side2 A85.out).mono ?_); (case side1 => repeat (first | exact (Kd.R_reads' HO160.out).2.2 | (with_reducible refine Kd.C_alloc ?_ _) | (with_reducible refine Kd.C_drewN ?_ _) | (with_reducible refine Kd.C_drew ?_))); (case side2 => exact (Kd.R_reads' HO160.out).2.1); rintro e w103 ⟨rfl, hb⟩; have n0_ := Aside0.mk (Kd.R_below (by (with_reducible repeat (first | apply Kd.R_alloc | apply Kd.R_drewN | apply Kd.R_drew)); exact HO160.out) hb); have n1_ := Aside0.mk (blk_below (g := gb144) (o := .cells #[.int .i64 a0_0, .int .i64 a0_1, .int .i64 a0_2, .int .i64 a0_3, .int .i64 a0_4] 23 (0, 0)) (by (with_reducible repeat (first | refine blk_drewN ?_ _ | refine blk_drew ?_ | refine blk_alloc ?_ _)); exact BK144.out) hb); have n2_ := Aside0.mk (blk_below (g := gb145) (o := .cells #[.int .i64 a1_0, .int .i64 a1_1, .int .i64 a1_2] 25 (0, 0)) (by (with_reducible repeat (first | refine blk_drewN ?_ _ | refine blk_drew ?_ | refine blk_alloc ?_ _)); exact BK145.out) hb); have n3_ := Aside0.mk (blk_below (g := gb146) (o := .cells #[.int .i64 a2_0, .string a2_1, .slice A2_2 l2_2.length c2_2, .string a2_3, .int .i64 a2_4, .int .i64 a2_5] 28 (0, 0)) (by (with_reducible repeat (first | refine blk_drewN ?_ _ | refine blk_drew ?_ | refine blk_alloc ?_ _)); exact BK146.out) hb); have n4_ := Aside0.mk (blk_below (g := gb164) (o := .cells #[.int .i64 t156, .string t157, .slice Ao74 t158.length co74, .string t161, .int .i64 t162, .int .i64 t163] 37 (0, 0)) (by (with_reducible repeat (first | refine blk_drewN ?_ _ | refine blk_drew ?_ | refine blk_alloc ?_ _)); exact BK164.out) hb); have n5_ := Aside0.mk (blk_below (g := gb165) (o := .cells #[.int .i64 a0_0, .int .i64 (wrap64 (a0_1 + (wrap64 (a3)))), .int .i64 (wrap64 (a0_2 + (wrap64 (a3)))), .int .i64 (wrap64 (a0_3 + (wrap64 (a3)))), .int .i64 (wrap64 (a0_4 + (wrap64 (a3))))] 32 (0, 0)) (by (with_reducible repeat (first | refine blk_drewN ?_ _ | refine blk_drew ?_ | refine blk_alloc ?_ _)); exact BK165.out) hb); have n6_ := Aside0.mk (below_step (by repeat (first | (with_reducible first | exact HB.out | apply below_alloc | apply pw_below_drewN | apply below_drew1 | refine below_set ?_ GE144.out | refine below_set ?_ GE145.out | refine below_set ?_ GE146.out | refine below_set ?_ GE164.out | refine below_set ?_ GE165.out) | exact HB.out)) hb); clear HO160; clear BK144; clear BK145; clear BK146; clear BK164; clear BK165; clear HB; have HO160 := n0_; have BK144 := n1_; have BK145 := n2_; have BK146 := n3_; have BK164 := n4_; have BK165 := n5_; have HB := n6_; clear n0_ n1_ n2_ n3_ n4_ n5_ n6_; (try clear hb); (try clear hb2); (try clear hk); (try clear hi)))
                  go_meet
                  case rel => exact ⟨_, ((t167 != 0)), (by first | rfl | (simp; done) | (simp [*]; done)), H', ⟨by have := HK1.out; have := HJ24.out; first | omega | exact Nat.le_refl _⟩, ⟨by (with_reducible repeat (first | apply Kd.R_alloc | apply Kd.R_drewN | apply Kd.R_drew)); exact HO160.out⟩, ⟨by (with_reducible repeat (first | refine blk_drewN ?_ _ | refine blk_drew ?_ | refine blk_alloc ?_ _)); exact BK144.out⟩, ⟨by (with_reducible repeat (first | refine blk_drewN ?_ _ | refine blk_drew ?_ | refine blk_alloc ?_ _)); exact BK145.out⟩, ⟨by (with_reducible repeat (first | refine blk_drewN ?_ _ | refine blk_drew ?_ | refine blk_alloc ?_ _)); exact BK146.out⟩, ⟨by (with_reducible repeat (first | refine blk_drewN ?_ _ | refine blk_drew ?_ | refine blk_alloc ?_ _)); exact BK164.out⟩, ⟨by (with_reducible repeat (first | refine blk_drewN ?_ _ | refine blk_drew ?_ | refine blk_alloc ?_ _)); exact BK165.out⟩, ⟨by repeat (first | (with_reducible first | exact HB.out | apply below_alloc | apply pw_below_drewN | apply below_drew1 | refine below_set ?_ GE144.out | refine below_set ?_ GE145.out | refine below_set ?_ GE146.out | refine below_set ?_ GE164.out | refine below_set ?_ GE165.out) | exact HB.out)⟩⟩
                · rw [if_neg c84] at H
                  have c84b0 : (t166 == 0) = false := beq_eq_false_iff_ne.mpr c84
                  have c84b1 : (t166 != 0) = true := bne_iff_ne.mpr c84
                  (first | rw [c84b0] | (simp only [i64_w, i32_w]; rw [c84b0]) | skip)
                  have H' := Aside0.mk H
                  clear H
                  have hnb104 := NB144_145.out
                  have hnc104 := NB145_144.out
                  have hnb105 := NB144_146.out
                  have hnc105 := NB146_144.out
                  have hnb106 := NB144_164.out
                  have hnc106 := NB164_144.out
                  have hnb107 := NB144_165.out
                  have hnc107 := NB165_144.out
                  have hcz108_0 : w77.cell? ⟨gb144, 0, none⟩ = some (.int .i64 a0_0) := (blk_cell BK144.out 0).trans rfl
                  have hcz108_1 : w77.cell? ⟨gb144, 1, none⟩ = some (.int .i64 a0_1) := (blk_cell BK144.out 1).trans rfl
                  have hcz108_2 : w77.cell? ⟨gb144, 2, none⟩ = some (.int .i64 a0_2) := (blk_cell BK144.out 2).trans rfl
                  have hcz108_3 : w77.cell? ⟨gb144, 3, none⟩ = some (.int .i64 a0_3) := (blk_cell BK144.out 3).trans rfl
                  have hcz108_4 : w77.cell? ⟨gb144, 4, none⟩ = some (.int .i64 a0_4) := (blk_cell BK144.out 4).trans rfl
                  have hfz108_0 := blk_frozen BK144.out 0
                  have hfz108_1 := blk_frozen BK144.out 1
                  have hfz108_2 := blk_frozen BK144.out 2
                  have hfz108_3 := blk_frozen BK144.out 3
                  have hfz108_4 := blk_frozen BK144.out 4
                  have hnb109 := NB145_146.out
                  have hnc109 := NB146_145.out
                  have hnb110 := NB145_164.out
                  have hnc110 := NB164_145.out
                  have hnb111 := NB145_165.out
                  have hnc111 := NB165_145.out
                  have hcz112_0 : w77.cell? ⟨gb145, 0, none⟩ = some (.int .i64 a1_0) := (blk_cell BK145.out 0).trans rfl
                  have hcz112_1 : w77.cell? ⟨gb145, 1, none⟩ = some (.int .i64 a1_1) := (blk_cell BK145.out 1).trans rfl
                  have hcz112_2 : w77.cell? ⟨gb145, 2, none⟩ = some (.int .i64 a1_2) := (blk_cell BK145.out 2).trans rfl
                  have hfz112_0 := blk_frozen BK145.out 0
                  have hfz112_1 := blk_frozen BK145.out 1
                  have hfz112_2 := blk_frozen BK145.out 2
                  have hnb113 := NB164_146.out
                  have hnc113 := NB146_164.out
                  have hnb114 := NB164_165.out
                  have hnc114 := NB165_164.out
                  have hcz115_0 : w77.cell? ⟨gb164, 0, none⟩ = some (.int .i64 t156) := (blk_cell BK164.out 0).trans rfl
                  have hcz115_1 : w77.cell? ⟨gb164, 1, none⟩ = some (.string t157) := (blk_cell BK164.out 1).trans rfl
                  have hcz115_2 : w77.cell? ⟨gb164, 2, none⟩ = some (.slice Ao74 t158.length co74) := (blk_cell BK164.out 2).trans rfl
                  have hcz115_3 : w77.cell? ⟨gb164, 3, none⟩ = some (.string t161) := (blk_cell BK164.out 3).trans rfl
                  have hcz115_4 : w77.cell? ⟨gb164, 4, none⟩ = some (.int .i64 t162) := (blk_cell BK164.out 4).trans rfl
                  have hcz115_5 : w77.cell? ⟨gb164, 5, none⟩ = some (.int .i64 t163) := (blk_cell BK164.out 5).trans rfl
                  have hfz115_0 := blk_frozen BK164.out 0
                  have hfz115_1 := blk_frozen BK164.out 1
                  have hfz115_2 := blk_frozen BK164.out 2
                  have hfz115_3 := blk_frozen BK164.out 3
                  have hfz115_4 := blk_frozen BK164.out 4
                  have hfz115_5 := blk_frozen BK164.out 5
                  go_wp2_with (first | ((with_reducible refine gate_callee (f := 13) rfl ?_); refine goesL_ (some 91) rfl rfl Tryd.func13 (by kernel_rfl) rfl #[.agg #[.int .i64 a0_0, .int .i64 a0_1, .int .i64 a0_2, .int .i64 a0_3, .int .i64 a0_4], .agg #[.int .i64 a1_0, .int .i64 a1_1, .int .i64 a1_2], .agg #[.int .i64 t156, .string t157, .slice Ao74 t158.length co74, .string t161, .int .i64 t162, .int .i64 t163]] rfl (by (try simp only [List.map_toArray, List.map_cons, List.map_nil]); first | done | rfl | (simp only [List.length_drop, List.length_take]; rfl)) ?_; (with_reducible refine (caps_Over.calls a0_0 a0_1 a0_2 a0_3 a0_4 a1_0 a1_1 a1_2 t156 t157 _ _ t158 t161 t162 t163 t166 _ (Wok_below hW (by repeat (first | (with_reducible first | exact HB.out | apply below_alloc | apply pw_below_drewN | apply below_drew1 | refine below_set ?_ GE144.out | refine below_set ?_ GE145.out | refine below_set ?_ GE146.out | refine below_set ?_ GE164.out | refine below_set ?_ GE165.out) | exact HB.out))) ?side1 ?side2 A83.out).mono ?_); (case side1 => refine (Kd.R_reads' (e := 92) (base := w.heap.size) (ok := fun k_ => True) (n := t158.length) (c := co74) ?_).2.2; exact (by (with_reducible repeat (first | apply Kd.R_alloc | apply Kd.R_drewN | apply Kd.R_drew)); exact (Kd.R_mono (Kd.R_far (p := ⟨gb165, 4, none⟩) (Kd.R_far (p := ⟨gb165, 3, none⟩) (Kd.R_far (p := ⟨gb165, 2, none⟩) (Kd.R_far (p := ⟨gb165, 1, none⟩) (Kd.R_far (p := ⟨gb165, 0, none⟩) (Kd.R_types HO160.out BK165.out (by decide)) (fun _ hk => hk.2) (.int .i64 a0_0)) (fun _ hk => hk.2) (.int .i64 (wrap64 (a0_1 + (wrap64 (a3)))))) (fun _ hk => hk.2) (.int .i64 (wrap64 (a0_2 + (wrap64 (a3)))))) (fun _ hk => hk.2) (.int .i64 (wrap64 (a0_3 + (wrap64 (a3)))))) (fun _ hk => hk.2) (.int .i64 (wrap64 (a0_4 + (wrap64 (a3)))))) (fun _ h_ => h_.1)))); (case side2 => exact (Kd.R_reads' HO160.out).2.1); rintro e w116 ⟨rfl, hb⟩; refine ⟨_, rfl, ?_⟩; have n0_ := Aside0.mk (Kd.R_below (by (with_reducible repeat (first | apply Kd.R_alloc | apply Kd.R_drewN | apply Kd.R_drew)); exact (Kd.R_mono (Kd.R_far (p := ⟨gb165, 4, none⟩) (Kd.R_far (p := ⟨gb165, 3, none⟩) (Kd.R_far (p := ⟨gb165, 2, none⟩) (Kd.R_far (p := ⟨gb165, 1, none⟩) (Kd.R_far (p := ⟨gb165, 0, none⟩) (Kd.R_types HO160.out BK165.out (by decide)) (fun _ hk => hk.2) (.int .i64 a0_0)) (fun _ hk => hk.2) (.int .i64 (wrap64 (a0_1 + (wrap64 (a3)))))) (fun _ hk => hk.2) (.int .i64 (wrap64 (a0_2 + (wrap64 (a3)))))) (fun _ hk => hk.2) (.int .i64 (wrap64 (a0_3 + (wrap64 (a3)))))) (fun _ hk => hk.2) (.int .i64 (wrap64 (a0_4 + (wrap64 (a3)))))) (fun _ h_ => h_.1))) hb); have n1_ := Aside0.mk (blk_below (g := gb144) (o := .cells #[.int .i64 a0_0, .int .i64 a0_1, .int .i64 a0_2, .int .i64 a0_3, .int .i64 a0_4] 23 (0, 0)) (by (with_reducible repeat (first | refine blk_drewN ?_ _ | refine blk_drew ?_ | refine blk_alloc ?_ _)); refine blk_far ?_ NB144_165.out _; (with_reducible repeat (first | refine blk_drewN ?_ _ | refine blk_drew ?_ | refine blk_alloc ?_ _)); refine blk_far ?_ NB144_165.out _; (with_reducible repeat (first | refine blk_drewN ?_ _ | refine blk_drew ?_ | refine blk_alloc ?_ _)); refine blk_far ?_ NB144_165.out _; (with_reducible repeat (first | refine blk_drewN ?_ _ | refine blk_drew ?_ | refine blk_alloc ?_ _)); refine blk_far ?_ NB144_165.out _; (with_reducible repeat (first | refine blk_drewN ?_ _ | refine blk_drew ?_ | refine blk_alloc ?_ _)); refine blk_far ?_ NB144_165.out _; (with_reducible repeat (first | refine blk_drewN ?_ _ | refine blk_drew ?_ | refine blk_alloc ?_ _)); exact BK144.out) hb); have n2_ := Aside0.mk (blk_below (g := gb145) (o := .cells #[.int .i64 a1_0, .int .i64 a1_1, .int .i64 a1_2] 25 (0, 0)) (by (with_reducible repeat (first | refine blk_drewN ?_ _ | refine blk_drew ?_ | refine blk_alloc ?_ _)); refine blk_far ?_ NB145_165.out _; (with_reducible repeat (first | refine blk_drewN ?_ _ | refine blk_drew ?_ | refine blk_alloc ?_ _)); refine blk_far ?_ NB145_165.out _; (with_reducible repeat (first | refine blk_drewN ?_ _ | refine blk_drew ?_ | refine blk_alloc ?_ _)); refine blk_far ?_ NB145_165.out _; (with_reducible repeat (first | refine blk_drewN ?_ _ | refine blk_drew ?_ | refine blk_alloc ?_ _)); refine blk_far ?_ NB145_165.out _; (with_reducible repeat (first | refine blk_drewN ?_ _ | refine blk_drew ?_ | refine blk_alloc ?_ _)); refine blk_far ?_ NB145_165.out _; (with_reducible repeat (first | refine blk_drewN ?_ _ | refine blk_drew ?_ | refine blk_alloc ?_ _)); exact BK145.out) hb); have n3_ := Aside0.mk (blk_below (g := gb146) (o := .cells #[.int .i64 a2_0, .string a2_1, .slice A2_2 l2_2.length c2_2, .string a2_3, .int .i64 a2_4, .int .i64 a2_5] 28 (0, 0)) (by (with_reducible repeat (first | refine blk_drewN ?_ _ | refine blk_drew ?_ | refine blk_alloc ?_ _)); refine blk_far ?_ NB146_165.out _; (with_reducible repeat (first | refine blk_drewN ?_ _ | refine blk_drew ?_ | refine blk_alloc ?_ _)); refine blk_far ?_ NB146_165.out _; (with_reducible repeat (first | refine blk_drewN ?_ _ | refine blk_drew ?_ | refine blk_alloc ?_ _)); refine blk_far ?_ NB146_165.out _; (with_reducible repeat (first | refine blk_drewN ?_ _ | refine blk_drew ?_ | refine blk_alloc ?_ _)); refine blk_far ?_ NB146_165.out _; (with_reducible repeat (first | refine blk_drewN ?_ _ | refine blk_drew ?_ | refine blk_alloc ?_ _)); refine blk_far ?_ NB146_165.out _; (with_reducible repeat (first | refine blk_drewN ?_ _ | refine blk_drew ?_ | refine blk_alloc ?_ _)); exact BK146.out) hb); have n4_ := Aside0.mk (blk_below (g := gb164) (o := .cells #[.int .i64 t156, .string t157, .slice Ao74 t158.length co74, .string t161, .int .i64 t162, .int .i64 t163] 37 (0, 0)) (by (with_reducible repeat (first | refine blk_drewN ?_ _ | refine blk_drew ?_ | refine blk_alloc ?_ _)); refine blk_far ?_ NB164_165.out _; (with_reducible repeat (first | refine blk_drewN ?_ _ | refine blk_drew ?_ | refine blk_alloc ?_ _)); refine blk_far ?_ NB164_165.out _; (with_reducible repeat (first | refine blk_drewN ?_ _ | refine blk_drew ?_ | refine blk_alloc ?_ _)); refine blk_far ?_ NB164_165.out _; (with_reducible repeat (first | refine blk_drewN ?_ _ | refine blk_drew ?_ | refine blk_alloc ?_ _)); refine blk_far ?_ NB164_165.out _; (with_reducible repeat (first | refine blk_drewN ?_ _ | refine blk_drew ?_ | refine blk_alloc ?_ _)); refine blk_far ?_ NB164_165.out _; (with_reducible repeat (first | refine blk_drewN ?_ _ | refine blk_drew ?_ | refine blk_alloc ?_ _)); exact BK164.out) hb); have n5_ := Aside0.mk (blk_below (g := gb165) (o := .cells #[.int .i64 a0_0, .int .i64 (wrap64 (a0_1 + (wrap64 (a3)))), .int .i64 (wrap64 (a0_2 + (wrap64 (a3)))), .int .i64 (wrap64 (a0_3 + (wrap64 (a3)))), .int .i64 (wrap64 (a0_4 + (wrap64 (a3))))] 32 (0, 0)) (by (with_reducible repeat (first | refine blk_drewN ?_ _ | refine blk_drew ?_ | refine blk_alloc ?_ _)); refine blk_put (cs := #[.int .i64 a0_0, .int .i64 (wrap64 (a0_1 + (wrap64 (a3)))), .int .i64 (wrap64 (a0_2 + (wrap64 (a3)))), .int .i64 (wrap64 (a0_3 + (wrap64 (a3)))), .int .i64 0]) ?_ 4 _ rfl; (with_reducible repeat (first | refine blk_drewN ?_ _ | refine blk_drew ?_ | refine blk_alloc ?_ _)); refine blk_put (cs := #[.int .i64 a0_0, .int .i64 (wrap64 (a0_1 + (wrap64 (a3)))), .int .i64 (wrap64 (a0_2 + (wrap64 (a3)))), .int .i64 0, .int .i64 0]) ?_ 3 _ rfl; (with_reducible repeat (first | refine blk_drewN ?_ _ | refine blk_drew ?_ | refine blk_alloc ?_ _)); refine blk_put (cs := #[.int .i64 a0_0, .int .i64 (wrap64 (a0_1 + (wrap64 (a3)))), .int .i64 0, .int .i64 0, .int .i64 0]) ?_ 2 _ rfl; (with_reducible repeat (first | refine blk_drewN ?_ _ | refine blk_drew ?_ | refine blk_alloc ?_ _)); refine blk_put (cs := #[.int .i64 a0_0, .int .i64 0, .int .i64 0, .int .i64 0, .int .i64 0]) ?_ 1 _ rfl; (with_reducible repeat (first | refine blk_drewN ?_ _ | refine blk_drew ?_ | refine blk_alloc ?_ _)); refine blk_put (cs := #[.int .i64 0, .int .i64 0, .int .i64 0, .int .i64 0, .int .i64 0]) ?_ 0 _ rfl; (with_reducible repeat (first | refine blk_drewN ?_ _ | refine blk_drew ?_ | refine blk_alloc ?_ _)); exact BK165.out) hb); have n6_ := Aside0.mk (below_step (by repeat (first | (with_reducible first | exact HB.out | apply below_alloc | apply pw_below_drewN | apply below_drew1 | refine below_set ?_ GE144.out | refine below_set ?_ GE145.out | refine below_set ?_ GE146.out | refine below_set ?_ GE164.out | refine below_set ?_ GE165.out) | exact HB.out)) hb); clear HO160; clear BK144; clear BK145; clear BK146; clear BK164; clear BK165; clear HB; have HO160 := n0_; have BK144 := n1_; have BK145 := n2_; have BK146 := n3_; have BK164 := n4_; have BK165 := n5_; have HB := n6_; clear n0_ n1_ n2_ n3_ n4_ n5_ n6_; (try clear hb); (try clear hb2); (try clear hk); (try clear hi)))
                  go_meet
                  case rel => exact ⟨_, (false), (by first | rfl | (simp; done) | (simp [*]; done)), H', ⟨by have := HK1.out; have := HJ24.out; first | omega | exact Nat.le_refl _⟩, ⟨by (with_reducible repeat (first | apply Kd.R_alloc | apply Kd.R_drewN | apply Kd.R_drew)); exact HO160.out⟩, ⟨by (with_reducible repeat (first | refine blk_drewN ?_ _ | refine blk_drew ?_ | refine blk_alloc ?_ _)); exact BK144.out⟩, ⟨by (with_reducible repeat (first | refine blk_drewN ?_ _ | refine blk_drew ?_ | refine blk_alloc ?_ _)); exact BK145.out⟩, ⟨by (with_reducible repeat (first | refine blk_drewN ?_ _ | refine blk_drew ?_ | refine blk_alloc ?_ _)); exact BK146.out⟩, ⟨by (with_reducible repeat (first | refine blk_drewN ?_ _ | refine blk_drew ?_ | refine blk_alloc ?_ _)); exact BK164.out⟩, ⟨by (with_reducible repeat (first | refine blk_drewN ?_ _ | refine blk_drew ?_ | refine blk_alloc ?_ _)); exact BK165.out⟩, ⟨by repeat (first | (with_reducible first | exact HB.out | apply below_alloc | apply pw_below_drewN | apply below_drew1 | refine below_set ?_ GE144.out | refine below_set ?_ GE145.out | refine below_set ?_ GE146.out | refine below_set ?_ GE164.out | refine below_set ?_ GE165.out) | exact HB.out)⟩⟩
              case rest =>
                clear HC64
                try clear c1
                try clear p1
                try clear q1
                try clear hx1
                try clear c2
                try clear p2
                try clear c3
                try clear c4
                try clear c5
                try clear c6
                try clear p6
                try clear c7
                try clear c8
                try clear c9
                try clear c10
                try clear c11
                try clear c13
                try clear p15
                try clear q15
                try clear hx15
                try clear c16
                try clear c16b0
                try clear c17
                try clear c17b0
                try clear c18
                try clear c18b0
                try clear c19
                try clear c19b0
                try clear c22
                try clear c22b0
                try clear c27
                try clear c29
                try clear c29b0
                try clear c29b1
                try clear c30
                try clear c30b0
                try clear c32
                try clear c33
                try clear c36
                try clear c38
                try clear c38b0
                try clear c38b1
                try clear c40
                try clear c41
                try clear c44
                try clear c47
                try clear c48
                try clear c51
                try clear c55
                try clear c56
                try clear c60
                try clear p64
                try clear c65
                try clear c66
                try clear c70
                try clear c71
                try clear c72
                try clear c75
                try clear c78
                try clear c79
                try clear c80
                try clear c81
                try clear c84
                try clear c84b0
                try clear c84b1
                try clear c86
                try clear c87
                try clear c88
                try clear c89
                try clear c91
                try clear c92
                try clear c93
                try clear c95
                try clear c96
                try clear c99
                try clear c104
                try clear c105
                try clear c106
                try clear c107
                try clear c109
                try clear c110
                try clear c111
                try clear c113
                try clear c114
                try clear hcz100_0
                try clear hcz100_1
                try clear hcz100_2
                try clear hcz100_3
                try clear hcz100_4
                try clear hcz101_0
                try clear hcz101_1
                try clear hcz101_2
                try clear hcz102_0
                try clear hcz102_1
                try clear hcz102_2
                try clear hcz102_3
                try clear hcz102_4
                try clear hcz102_5
                try clear hcz108_0
                try clear hcz108_1
                try clear hcz108_2
                try clear hcz108_3
                try clear hcz108_4
                try clear hcz10_0
                try clear hcz10_1
                try clear hcz10_2
                try clear hcz112_0
                try clear hcz112_1
                try clear hcz112_2
                try clear hcz115_0
                try clear hcz115_1
                try clear hcz115_2
                try clear hcz115_3
                try clear hcz115_4
                try clear hcz115_5
                try clear hcz12_0
                try clear hcz12_1
                try clear hcz12_2
                try clear hcz12_3
                try clear hcz12_4
                try clear hcz12_5
                try clear hcz34_0
                try clear hcz34_1
                try clear hcz34_2
                try clear hcz34_3
                try clear hcz34_4
                try clear hcz37_0
                try clear hcz37_1
                try clear hcz37_2
                try clear hcz37_3
                try clear hcz37_4
                try clear hcz37_5
                try clear hcz42_0
                try clear hcz42_1
                try clear hcz42_2
                try clear hcz42_3
                try clear hcz42_4
                try clear hcz45_0
                try clear hcz45_1
                try clear hcz45_2
                try clear hcz45_3
                try clear hcz45_4
                try clear hcz45_5
                try clear hcz49_0
                try clear hcz49_1
                try clear hcz49_2
                try clear hcz49_3
                try clear hcz49_4
                try clear hcz52_0
                try clear hcz52_1
                try clear hcz52_2
                try clear hcz52_3
                try clear hcz52_4
                try clear hcz52_5
                try clear hcz53_0
                try clear hcz53_1
                try clear hcz53_2
                try clear hcz53_3
                try clear hcz53_4
                try clear hcz57_0
                try clear hcz57_1
                try clear hcz57_2
                try clear hcz57_3
                try clear hcz57_4
                try clear hcz67_0
                try clear hcz67_1
                try clear hcz67_2
                try clear hcz67_3
                try clear hcz67_4
                try clear hcz67_5
                try clear hcz73_0
                try clear hcz73_1
                try clear hcz73_2
                try clear hcz73_3
                try clear hcz73_4
                try clear hcz73_5
                try clear hcz76_0
                try clear hcz76_1
                try clear hcz76_2
                try clear hcz76_3
                try clear hcz76_4
                try clear hcz82_0
                try clear hcz82_1
                try clear hcz82_2
                try clear hcz82_3
                try clear hcz82_4
                try clear hcz90_0
                try clear hcz90_1
                try clear hcz90_2
                try clear hcz90_3
                try clear hcz90_4
                try clear hcz94_0
                try clear hcz94_1
                try clear hcz94_2
                try clear hcz97_0
                try clear hcz97_1
                try clear hcz97_2
                try clear hcz97_3
                try clear hcz97_4
                try clear hcz97_5
                try clear hfz100_0
                try clear hfz100_1
                try clear hfz100_2
                try clear hfz100_3
                try clear hfz100_4
                try clear hfz101_0
                try clear hfz101_1
                try clear hfz101_2
                try clear hfz102_0
                try clear hfz102_1
                try clear hfz102_2
                try clear hfz102_3
                try clear hfz102_4
                try clear hfz102_5
                try clear hfz108_0
                try clear hfz108_1
                try clear hfz108_2
                try clear hfz108_3
                try clear hfz108_4
                try clear hfz10_0
                try clear hfz10_1
                try clear hfz10_2
                try clear hfz112_0
                try clear hfz112_1
                try clear hfz112_2
                try clear hfz115_0
                try clear hfz115_1
                try clear hfz115_2
                try clear hfz115_3
                try clear hfz115_4
                try clear hfz115_5
                try clear hfz12_0
                try clear hfz12_1
                try clear hfz12_2
                try clear hfz12_3
                try clear hfz12_4
                try clear hfz12_5
                try clear hfz34_0
                try clear hfz34_1
                try clear hfz34_2
                try clear hfz34_3
                try clear hfz34_4
                try clear hfz37_0
                try clear hfz37_1
                try clear hfz37_2
                try clear hfz37_3
                try clear hfz37_4
                try clear hfz37_5
                try clear hfz42_0
                try clear hfz42_1
                try clear hfz42_2
                try clear hfz42_3
                try clear hfz42_4
                try clear hfz45_0
                try clear hfz45_1
                try clear hfz45_2
                try clear hfz45_3
                try clear hfz45_4
                try clear hfz45_5
                try clear hfz49_0
                try clear hfz49_1
                try clear hfz49_2
                try clear hfz49_3
                try clear hfz49_4
                try clear hfz52_0
                try clear hfz52_1
                try clear hfz52_2
                try clear hfz52_3
                try clear hfz52_4
                try clear hfz52_5
                try clear hfz53_0
                try clear hfz53_1
                try clear hfz53_2
                try clear hfz53_3
                try clear hfz53_4
                try clear hfz57_0
                try clear hfz57_1
                try clear hfz57_2
                try clear hfz57_3
                try clear hfz57_4
                try clear hfz67_0
                try clear hfz67_1
                try clear hfz67_2
                try clear hfz67_3
                try clear hfz67_4
                try clear hfz67_5
                try clear hfz73_0
                try clear hfz73_1
                try clear hfz73_2
                try clear hfz73_3
                try clear hfz73_4
                try clear hfz73_5
                try clear hfz76_0
                try clear hfz76_1
                try clear hfz76_2
                try clear hfz76_3
                try clear hfz76_4
                try clear hfz82_0
                try clear hfz82_1
                try clear hfz82_2
                try clear hfz82_3
                try clear hfz82_4
                try clear hfz90_0
                try clear hfz90_1
                try clear hfz90_2
                try clear hfz90_3
                try clear hfz90_4
                try clear hfz94_0
                try clear hfz94_1
                try clear hfz94_2
                try clear hfz97_0
                try clear hfz97_1
                try clear hfz97_2
                try clear hfz97_3
                try clear hfz97_4
                try clear hfz97_5
                try clear hx150_0
                try clear p1
                try clear p15
                try clear p150
                try clear p2
                try clear p6
                try clear q1
                try clear q15
                try clear q150
                obtain ⟨kq, x99_63, rfl, HA, HJ63, HO_165002, BK144, BK145, BK146, BK164, BK165, HB⟩ := hcut
                cases kq with
                | zero => exact absurd HA.out (by simp [decanterlaw23_CapsMore.j2])
                | succ kj63 =>
                  have H := HA.out
                  clear HA
                  simp only [decanterlaw23_CapsMore.j2] at H
                  by_cases c117 : x99_63 = true
                  · subst c117
                    have H1 : (some false) = some r := by rw [if_pos rfl] at H; exact H
                    clear H
                    have H := H1
                    clear H1
                    obtain rfl := Option.some.inj H
                    go_wp2
                    go_ret
                    exact ⟨by first | rfl | (simp [errW_none, errW_some] <;> rfl) | (simp [*, errW_none, errW_some] <;> rfl), by repeat (first | (with_reducible first | exact HB.out | apply below_alloc | apply pw_below_drewN | apply below_drew1 | refine below_set ?_ GE144.out | refine below_set ?_ GE145.out | refine below_set ?_ GE146.out | refine below_set ?_ GE164.out | refine below_set ?_ GE165.out) | exact HB.out)⟩
                  · replace c117 := Bool.eq_false_iff.mpr c117
                    subst c117
                    have H1 : ((caps_Price.f (wrap64 (a1_0 + (wrap64 (a3)))) a1_1 a1_2 t156 t157 t158 t161 t162 t163).bind fun t169 => ((caps_Price.f a1_0 a1_1 a1_2 t156 t157 t158 t161 t162 t163).bind fun t170 => (some (t169 == (wrap64 (t170 + (wrap64 (a3)))))))) = some r := by rw [if_neg (show ¬ (false = true) by decide)] at H; exact H
                    clear H
                    have H := H1
                    clear H1
                    replace H := Option.bind_eq_some_iff.mp H
                    obtain ⟨t169, A1180, H⟩ := H
                    replace H : ((caps_Price.f a1_0 a1_1 a1_2 t156 t157 t158 t161 t162 t163).bind fun t170 => (some (t169 == (wrap64 (t170 + (wrap64 (a3))))))) = some r := H
                    have A118 := Aside0.mk A1180
                    clear A1180
                    replace H := Option.bind_eq_some_iff.mp H
                    obtain ⟨t170, A1190, H⟩ := H
                    replace H : (some (t169 == (wrap64 (t170 + (wrap64 (a3)))))) = some r := H
                    have A119 := Aside0.mk A1190
                    clear A1190
                    obtain rfl := Option.some.inj H
                    have hnb120 := NB145_144.out
                    have hnc120 := NB144_145.out
                    have hnb121 := NB145_146.out
                    have hnc121 := NB146_145.out
                    have hnb122 := NB145_164.out
                    have hnc122 := NB164_145.out
                    have hnb123 := NB145_165.out
                    have hnc123 := NB165_145.out
                    have hcz124_0 : wc.cell? ⟨gb145, 0, none⟩ = some (.int .i64 a1_0) := (blk_cell BK145.out 0).trans rfl
                    have hcz124_1 : wc.cell? ⟨gb145, 1, none⟩ = some (.int .i64 a1_1) := (blk_cell BK145.out 1).trans rfl
                    have hcz124_2 : wc.cell? ⟨gb145, 2, none⟩ = some (.int .i64 a1_2) := (blk_cell BK145.out 2).trans rfl
                    have hfz124_0 := blk_frozen BK145.out 0
                    have hfz124_1 := blk_frozen BK145.out 1
                    have hfz124_2 := blk_frozen BK145.out 2
                    try go_wp2_with (first | ((with_reducible refine gate_dst (N := 14) rfl ?_); (try (refine gate_guard (by rfl) ?_; dsimp only)); refine box_event ?hg (N := 14) ?hd (cs := #[.int .i64 0, .int .i64 0, .int .i64 0]) (t := 40) ?hr ?_; (case hd => rfl); (case hg => rfl); (case hr => first | (go_simp; done) | (go_simp; rfl)); intro gb168 hg w125 hbox hb; have n0_ := Aside0.mk (Kd.R_below (by (with_reducible repeat (first | apply Kd.R_alloc | apply Kd.R_drewN | apply Kd.R_drew)); exact HO_165002.out) hb); have n1_ := Aside0.mk (blk_below (g := gb144) (o := .cells #[.int .i64 a0_0, .int .i64 a0_1, .int .i64 a0_2, .int .i64 a0_3, .int .i64 a0_4] 23 (0, 0)) (by (with_reducible repeat (first | refine blk_drewN ?_ _ | refine blk_drew ?_ | refine blk_alloc ?_ _)); exact BK144.out) hb); have n2_ := Aside0.mk (blk_below (g := gb145) (o := .cells #[.int .i64 a1_0, .int .i64 a1_1, .int .i64 a1_2] 25 (0, 0)) (by (with_reducible repeat (first | refine blk_drewN ?_ _ | refine blk_drew ?_ | refine blk_alloc ?_ _)); exact BK145.out) hb); have n3_ := Aside0.mk (blk_below (g := gb146) (o := .cells #[.int .i64 a2_0, .string a2_1, .slice A2_2 l2_2.length c2_2, .string a2_3, .int .i64 a2_4, .int .i64 a2_5] 28 (0, 0)) (by (with_reducible repeat (first | refine blk_drewN ?_ _ | refine blk_drew ?_ | refine blk_alloc ?_ _)); exact BK146.out) hb); have n4_ := Aside0.mk (blk_below (g := gb164) (o := .cells #[.int .i64 t156, .string t157, .slice Ao74 t158.length co74, .string t161, .int .i64 t162, .int .i64 t163] 37 (0, 0)) (by (with_reducible repeat (first | refine blk_drewN ?_ _ | refine blk_drew ?_ | refine blk_alloc ?_ _)); exact BK164.out) hb); have n5_ := Aside0.mk (blk_below (g := gb165) (o := .cells #[.int .i64 a0_0, .int .i64 (wrap64 (a0_1 + (wrap64 (a3)))), .int .i64 (wrap64 (a0_2 + (wrap64 (a3)))), .int .i64 (wrap64 (a0_3 + (wrap64 (a3)))), .int .i64 (wrap64 (a0_4 + (wrap64 (a3))))] 32 (0, 0)) (by (with_reducible repeat (first | refine blk_drewN ?_ _ | refine blk_drew ?_ | refine blk_alloc ?_ _)); exact BK165.out) hb); have n6_ := Aside0.mk (below_step (by repeat (first | (with_reducible first | exact HB.out | apply below_alloc | apply pw_below_drewN | apply below_drew1 | refine below_set ?_ GE144.out | refine below_set ?_ GE145.out | refine below_set ?_ GE146.out | refine below_set ?_ GE164.out | refine below_set ?_ GE165.out) | exact HB.out)) hb); have n7_ := Aside0.mk (hbox); have n8_ := Aside0.mk ((by rw [hg]; exact (below_size (by repeat (first | (with_reducible first | exact HB.out | apply below_alloc | apply pw_below_drewN | apply below_drew1 | refine below_set ?_ GE144.out | refine below_set ?_ GE145.out | refine below_set ?_ GE146.out | refine below_set ?_ GE164.out | refine below_set ?_ GE165.out) | exact HB.out))) : w.heap.size ≤ gb168)); have n9_ := Aside0.mk ((by rw [hg]; exact (below_size (by repeat (first | (with_reducible first | exact HB.out | apply below_alloc | apply pw_below_drewN | apply below_drew1 | refine below_set ?_ GE144.out | refine below_set ?_ GE145.out | refine below_set ?_ GE146.out | refine below_set ?_ GE164.out | refine below_set ?_ GE165.out) | exact HB.out))) : w.heap.size ≤ gb168)); have n10_ := Aside0.mk ((by rw [hg]; exact Nat.ne_of_lt (blk_lt (g := gb144) (o := .cells #[.int .i64 a0_0, .int .i64 a0_1, .int .i64 a0_2, .int .i64 a0_3, .int .i64 a0_4] 23 (0, 0)) (by (with_reducible repeat (first | refine blk_drewN ?_ _ | refine blk_drew ?_ | refine blk_alloc ?_ _)); exact BK144.out)) : gb144 ≠ gb168)); have n11_ := Aside0.mk ((by rw [hg]; exact Nat.ne_of_gt (blk_lt (g := gb144) (o := .cells #[.int .i64 a0_0, .int .i64 a0_1, .int .i64 a0_2, .int .i64 a0_3, .int .i64 a0_4] 23 (0, 0)) (by (with_reducible repeat (first | refine blk_drewN ?_ _ | refine blk_drew ?_ | refine blk_alloc ?_ _)); exact BK144.out)) : gb168 ≠ gb144)); have n12_ := Aside0.mk ((by rw [hg]; exact Nat.ne_of_lt (blk_lt (g := gb145) (o := .cells #[.int .i64 a1_0, .int .i64 a1_1, .int .i64 a1_2] 25 (0, 0)) (by (with_reducible repeat (first | refine blk_drewN ?_ _ | refine blk_drew ?_ | refine blk_alloc ?_ _)); exact BK145.out)) : gb145 ≠ gb168)); have n13_ := Aside0.mk ((by rw [hg]; exact Nat.ne_of_gt (blk_lt (g := gb145) (o := .cells #[.int .i64 a1_0, .int .i64 a1_1, .int .i64 a1_2] 25 (0, 0)) (by (with_reducible repeat (first | refine blk_drewN ?_ _ | refine blk_drew ?_ | refine blk_alloc ?_ _)); exact BK145.out)) : gb168 ≠ gb145)); have n14_ := Aside0.mk ((by rw [hg]; exact Nat.ne_of_lt (blk_lt (g := gb146) (o := .cells #[.int .i64 a2_0, .string a2_1, .slice A2_2 l2_2.length c2_2, .string a2_3, .int .i64 a2_4, .int .i64 a2_5] 28 (0, 0)) (by (with_reducible repeat (first | refine blk_drewN ?_ _ | refine blk_drew ?_ | refine blk_alloc ?_ _)); exact BK146.out)) : gb146 ≠ gb168)); have n15_ := Aside0.mk ((by rw [hg]; exact Nat.ne_of_gt (blk_lt (g := gb146) (o := .cells #[.int .i64 a2_0, .string a2_1, .slice A2_2 l2_2.length c2_2, .string a2_3, .int .i64 a2_4, .int .i64 a2_5] 28 (0, 0)) (by (with_reducible repeat (first | refine blk_drewN ?_ _ | refine blk_drew ?_ | refine blk_alloc ?_ _)); exact BK146.out)) : gb168 ≠ gb146)); have n16_ := Aside0.mk ((by rw [hg]; exact Nat.ne_of_lt (blk_lt (g := gb164) (o := .cells #[.int .i64 t156, .string t157, .slice Ao74 t158.length co74, .string t161, .int .i64 t162, .int .i64 t163] 37 (0, 0)) (by (with_reducible repeat (first | refine blk_drewN ?_ _ | refine blk_drew ?_ | refine blk_alloc ?_ _)); exact BK164.out)) : gb164 ≠ gb168)); have n17_ := Aside0.mk ((by rw [hg]; exact Nat.ne_of_gt (blk_lt (g := gb164) (o := .cells #[.int .i64 t156, .string t157, .slice Ao74 t158.length co74, .string t161, .int .i64 t162, .int .i64 t163] 37 (0, 0)) (by (with_reducible repeat (first | refine blk_drewN ?_ _ | refine blk_drew ?_ | refine blk_alloc ?_ _)); exact BK164.out)) : gb168 ≠ gb164)); have n18_ := Aside0.mk ((by rw [hg]; exact Nat.ne_of_lt (blk_lt (g := gb165) (o := .cells #[.int .i64 a0_0, .int .i64 (wrap64 (a0_1 + (wrap64 (a3)))), .int .i64 (wrap64 (a0_2 + (wrap64 (a3)))), .int .i64 (wrap64 (a0_3 + (wrap64 (a3)))), .int .i64 (wrap64 (a0_4 + (wrap64 (a3))))] 32 (0, 0)) (by (with_reducible repeat (first | refine blk_drewN ?_ _ | refine blk_drew ?_ | refine blk_alloc ?_ _)); exact BK165.out)) : gb165 ≠ gb168)); have n19_ := Aside0.mk ((by rw [hg]; exact Nat.ne_of_gt (blk_lt (g := gb165) (o := .cells #[.int .i64 a0_0, .int .i64 (wrap64 (a0_1 + (wrap64 (a3)))), .int .i64 (wrap64 (a0_2 + (wrap64 (a3)))), .int .i64 (wrap64 (a0_3 + (wrap64 (a3)))), .int .i64 (wrap64 (a0_4 + (wrap64 (a3))))] 32 (0, 0)) (by (with_reducible repeat (first | refine blk_drewN ?_ _ | refine blk_drew ?_ | refine blk_alloc ?_ _)); exact BK165.out)) : gb168 ≠ gb165)); clear HO_165002; clear BK144; clear BK145; clear BK146; clear BK164; clear BK165; clear HB; have HO_165002 := n0_; have BK144 := n1_; have BK145 := n2_; have BK146 := n3_; have BK164 := n4_; have BK165 := n5_; have HB := n6_; have BK168 := n7_; have GW168 := n8_; have GE168 := n9_; have NB144_168 := n10_; have NB168_144 := n11_; have NB145_168 := n12_; have NB168_145 := n13_; have NB146_168 := n14_; have NB168_146 := n15_; have NB164_168 := n16_; have NB168_164 := n17_; have NB165_168 := n18_; have NB168_165 := n19_; clear n0_ n1_ n2_ n3_ n4_ n5_ n6_ n7_ n8_ n9_ n10_ n11_ n12_ n13_ n14_ n15_ n16_ n17_ n18_ n19_; clear hb hbox hg; have hnb126 := NB168_144.out; have hnc126 := NB144_168.out; have hnb127 := NB168_145.out; have hnc127 := NB145_168.out; have hnb128 := NB168_146.out; have hnc128 := NB146_168.out; have hnb129 := NB168_164.out; have hnc129 := NB164_168.out; have hnb130 := NB168_165.out; have hnc130 := NB165_168.out; have hcz131_0 : w125.cell? ⟨gb168, 0, none⟩ = some (.int .i64 0) := (blk_cell BK168.out 0).trans rfl; have hcz131_1 : w125.cell? ⟨gb168, 1, none⟩ = some (.int .i64 0) := (blk_cell BK168.out 1).trans rfl; have hcz131_2 : w125.cell? ⟨gb168, 2, none⟩ = some (.int .i64 0) := (blk_cell BK168.out 2).trans rfl; have hfz131_0 := blk_frozen BK168.out 0; have hfz131_1 := blk_frozen BK168.out 1; have hfz131_2 := blk_frozen BK168.out 2))
                    have n0_ : Aside0 (Kd.R k92 92 (((w125.setCell ⟨gb168, 0, none⟩ (.int .i64 (wrap64 (a1_0 + (wrap64 (a3)))))).setCell ⟨gb168, 1, none⟩ (.int .i64 a1_1)).setCell ⟨gb168, 2, none⟩ (.int .i64 a1_2)) w.heap.size (fun _ => True) (.slice Ao74 t158.length co74) t158) := ⟨by (with_reducible repeat (first | apply Kd.R_alloc | apply Kd.R_drewN | apply Kd.R_drew)); exact Kd.R_mono (Kd.R_far (p := ⟨gb168, 2, none⟩) (Kd.R_far (p := ⟨gb168, 1, none⟩) (Kd.R_far (p := ⟨gb168, 0, none⟩) (Kd.R_types HO_165002.out BK168.out (by decide)) (fun _ hk => hk.2) (.int .i64 (wrap64 (a1_0 + (wrap64 (a3)))))) (fun _ hk => hk.2) (.int .i64 a1_1)) (fun _ hk => hk.2) (.int .i64 a1_2)) (fun _ hk => trivial)⟩
                    have n1_ : Aside0 ((((w125.setCell ⟨gb168, 0, none⟩ (.int .i64 (wrap64 (a1_0 + (wrap64 (a3)))))).setCell ⟨gb168, 1, none⟩ (.int .i64 a1_1)).setCell ⟨gb168, 2, none⟩ (.int .i64 a1_2)).heap[gb144]? = some (.cells #[.int .i64 a0_0, .int .i64 a0_1, .int .i64 a0_2, .int .i64 a0_3, .int .i64 a0_4] 23 (0, 0))) := ⟨by (with_reducible repeat (first | refine blk_drewN ?_ _ | refine blk_drew ?_ | refine blk_alloc ?_ _)); refine blk_far ?_ NB144_168.out _; (with_reducible repeat (first | refine blk_drewN ?_ _ | refine blk_drew ?_ | refine blk_alloc ?_ _)); refine blk_far ?_ NB144_168.out _; (with_reducible repeat (first | refine blk_drewN ?_ _ | refine blk_drew ?_ | refine blk_alloc ?_ _)); refine blk_far ?_ NB144_168.out _; (with_reducible repeat (first | refine blk_drewN ?_ _ | refine blk_drew ?_ | refine blk_alloc ?_ _)); exact BK144.out⟩
                    have n2_ : Aside0 ((((w125.setCell ⟨gb168, 0, none⟩ (.int .i64 (wrap64 (a1_0 + (wrap64 (a3)))))).setCell ⟨gb168, 1, none⟩ (.int .i64 a1_1)).setCell ⟨gb168, 2, none⟩ (.int .i64 a1_2)).heap[gb145]? = some (.cells #[.int .i64 a1_0, .int .i64 a1_1, .int .i64 a1_2] 25 (0, 0))) := ⟨by (with_reducible repeat (first | refine blk_drewN ?_ _ | refine blk_drew ?_ | refine blk_alloc ?_ _)); refine blk_far ?_ NB145_168.out _; (with_reducible repeat (first | refine blk_drewN ?_ _ | refine blk_drew ?_ | refine blk_alloc ?_ _)); refine blk_far ?_ NB145_168.out _; (with_reducible repeat (first | refine blk_drewN ?_ _ | refine blk_drew ?_ | refine blk_alloc ?_ _)); refine blk_far ?_ NB145_168.out _; (with_reducible repeat (first | refine blk_drewN ?_ _ | refine blk_drew ?_ | refine blk_alloc ?_ _)); exact BK145.out⟩
                    have n3_ : Aside0 ((((w125.setCell ⟨gb168, 0, none⟩ (.int .i64 (wrap64 (a1_0 + (wrap64 (a3)))))).setCell ⟨gb168, 1, none⟩ (.int .i64 a1_1)).setCell ⟨gb168, 2, none⟩ (.int .i64 a1_2)).heap[gb146]? = some (.cells #[.int .i64 a2_0, .string a2_1, .slice A2_2 l2_2.length c2_2, .string a2_3, .int .i64 a2_4, .int .i64 a2_5] 28 (0, 0))) := ⟨by (with_reducible repeat (first | refine blk_drewN ?_ _ | refine blk_drew ?_ | refine blk_alloc ?_ _)); refine blk_far ?_ NB146_168.out _; (with_reducible repeat (first | refine blk_drewN ?_ _ | refine blk_drew ?_ | refine blk_alloc ?_ _)); refine blk_far ?_ NB146_168.out _; (with_reducible repeat (first | refine blk_drewN ?_ _ | refine blk_drew ?_ | refine blk_alloc ?_ _)); refine blk_far ?_ NB146_168.out _; (with_reducible repeat (first | refine blk_drewN ?_ _ | refine blk_drew ?_ | refine blk_alloc ?_ _)); exact BK146.out⟩
                    have n4_ : Aside0 ((((w125.setCell ⟨gb168, 0, none⟩ (.int .i64 (wrap64 (a1_0 + (wrap64 (a3)))))).setCell ⟨gb168, 1, none⟩ (.int .i64 a1_1)).setCell ⟨gb168, 2, none⟩ (.int .i64 a1_2)).heap[gb164]? = some (.cells #[.int .i64 t156, .string t157, .slice Ao74 t158.length co74, .string t161, .int .i64 t162, .int .i64 t163] 37 (0, 0))) := ⟨by (with_reducible repeat (first | refine blk_drewN ?_ _ | refine blk_drew ?_ | refine blk_alloc ?_ _)); refine blk_far ?_ NB164_168.out _; (with_reducible repeat (first | refine blk_drewN ?_ _ | refine blk_drew ?_ | refine blk_alloc ?_ _)); refine blk_far ?_ NB164_168.out _; (with_reducible repeat (first | refine blk_drewN ?_ _ | refine blk_drew ?_ | refine blk_alloc ?_ _)); refine blk_far ?_ NB164_168.out _; (with_reducible repeat (first | refine blk_drewN ?_ _ | refine blk_drew ?_ | refine blk_alloc ?_ _)); exact BK164.out⟩
                    have n5_ : Aside0 ((((w125.setCell ⟨gb168, 0, none⟩ (.int .i64 (wrap64 (a1_0 + (wrap64 (a3)))))).setCell ⟨gb168, 1, none⟩ (.int .i64 a1_1)).setCell ⟨gb168, 2, none⟩ (.int .i64 a1_2)).heap[gb165]? = some (.cells #[.int .i64 a0_0, .int .i64 (wrap64 (a0_1 + (wrap64 (a3)))), .int .i64 (wrap64 (a0_2 + (wrap64 (a3)))), .int .i64 (wrap64 (a0_3 + (wrap64 (a3)))), .int .i64 (wrap64 (a0_4 + (wrap64 (a3))))] 32 (0, 0))) := ⟨by (with_reducible repeat (first | refine blk_drewN ?_ _ | refine blk_drew ?_ | refine blk_alloc ?_ _)); refine blk_far ?_ NB165_168.out _; (with_reducible repeat (first | refine blk_drewN ?_ _ | refine blk_drew ?_ | refine blk_alloc ?_ _)); refine blk_far ?_ NB165_168.out _; (with_reducible repeat (first | refine blk_drewN ?_ _ | refine blk_drew ?_ | refine blk_alloc ?_ _)); refine blk_far ?_ NB165_168.out _; (with_reducible repeat (first | refine blk_drewN ?_ _ | refine blk_drew ?_ | refine blk_alloc ?_ _)); exact BK165.out⟩
                    have n6_ : Aside0 ((((w125.setCell ⟨gb168, 0, none⟩ (.int .i64 (wrap64 (a1_0 + (wrap64 (a3)))))).setCell ⟨gb168, 1, none⟩ (.int .i64 a1_1)).setCell ⟨gb168, 2, none⟩ (.int .i64 a1_2)).heap[gb168]? = some (.cells #[.int .i64 (wrap64 (a1_0 + (wrap64 (a3)))), .int .i64 a1_1, .int .i64 a1_2] 40 (0, 0))) := ⟨by (with_reducible repeat (first | refine blk_drewN ?_ _ | refine blk_drew ?_ | refine blk_alloc ?_ _)); refine blk_put (cs := #[.int .i64 (wrap64 (a1_0 + (wrap64 (a3)))), .int .i64 a1_1, .int .i64 0]) ?_ 2 _ rfl; (with_reducible repeat (first | refine blk_drewN ?_ _ | refine blk_drew ?_ | refine blk_alloc ?_ _)); refine blk_put (cs := #[.int .i64 (wrap64 (a1_0 + (wrap64 (a3)))), .int .i64 0, .int .i64 0]) ?_ 1 _ rfl; (with_reducible repeat (first | refine blk_drewN ?_ _ | refine blk_drew ?_ | refine blk_alloc ?_ _)); refine blk_put (cs := #[.int .i64 0, .int .i64 0, .int .i64 0]) ?_ 0 _ rfl; (with_reducible repeat (first | refine blk_drewN ?_ _ | refine blk_drew ?_ | refine blk_alloc ?_ _)); exact BK168.out⟩
                    have n7_ : Aside0 (Below w.heap.size w (((w125.setCell ⟨gb168, 0, none⟩ (.int .i64 (wrap64 (a1_0 + (wrap64 (a3)))))).setCell ⟨gb168, 1, none⟩ (.int .i64 a1_1)).setCell ⟨gb168, 2, none⟩ (.int .i64 a1_2))) := ⟨by repeat (first | (with_reducible first | exact HB.out | apply below_alloc | apply pw_below_drewN | apply below_drew1 | refine below_set ?_ GE144.out | refine below_set ?_ GE145.out | refine below_set ?_ GE146.out | refine below_set ?_ GE164.out | refine below_set ?_ GE165.out | refine below_set ?_ GE168.out) | exact HB.out)⟩
                    (try clear HO_165002)
                    (try clear BK144)
                    (try clear BK145)
                    (try clear BK146)
                    (try clear BK164)
                    (try clear BK165)
                    (try clear BK168)
                    (try clear HB)
                    generalize (((w125.setCell ⟨gb168, 0, none⟩ (.int .i64 (wrap64 (a1_0 + (wrap64 (a3)))))).setCell ⟨gb168, 1, none⟩ (.int .i64 a1_1)).setCell ⟨gb168, 2, none⟩ (.int .i64 a1_2)) = w132 at n0_ n1_ n2_ n3_ n4_ n5_ n6_ n7_ ⊢
                    have HO_165002 := n0_
                    have BK144 := n1_
                    have BK145 := n2_
                    have BK146 := n3_
                    have BK164 := n4_
                    have BK165 := n5_
                    have BK168 := n6_
                    have HB := n7_
                    clear n0_ n1_ n2_ n3_ n4_ n5_ n6_ n7_
                    have n0_ := Aside0.mk (Kd.R_drew HO_165002.out)
                    have n1_ := Aside0.mk (blk_drew BK144.out)
                    have n2_ := Aside0.mk (blk_drew BK145.out)
                    have n3_ := Aside0.mk (blk_drew BK146.out)
                    have n4_ := Aside0.mk (blk_drew BK164.out)
                    have n5_ := Aside0.mk (blk_drew BK165.out)
                    have n6_ := Aside0.mk (blk_drew BK168.out)
                    have n7_ := Aside0.mk (below_drew1 HB.out)
                    clear HO_165002
                    clear BK144
                    clear BK145
                    clear BK146
                    clear BK164
                    clear BK165
                    clear BK168
                    clear HB
                    have HO_165002 := n0_
                    have BK144 := n1_
                    have BK145 := n2_
                    have BK146 := n3_
                    have BK164 := n4_
                    have BK165 := n5_
                    have BK168 := n6_
                    have HB := n7_
                    clear n0_ n1_ n2_ n3_ n4_ n5_ n6_ n7_
                    refine start_ (n := 10) (S := fun w' => w'.cell? ⟨gb168, 0, none⟩ = some (.int .i64 (wrap64 (a1_0 + (wrap64 (a3))))) ∧ w'.cell? ⟨gb168, 1, none⟩ = some (.int .i64 a1_1) ∧ w'.cell? ⟨gb168, 2, none⟩ = some (.int .i64 a1_2) ∧ w'.cell? ⟨gb164, 0, none⟩ = some (.int .i64 t156) ∧ w'.cell? ⟨gb164, 1, none⟩ = some (.string t157) ∧ w'.cell? ⟨gb164, 2, none⟩ = some (.slice Ao74 t158.length co74) ∧ w'.cell? ⟨gb164, 3, none⟩ = some (.string t161) ∧ w'.cell? ⟨gb164, 4, none⟩ = some (.int .i64 t162) ∧ w'.cell? ⟨gb164, 5, none⟩ = some (.int .i64 t163) ∧ w'.cell? ⟨gb145, 0, none⟩ = some (.int .i64 a1_0) ∧ w'.cell? ⟨gb145, 1, none⟩ = some (.int .i64 a1_1) ∧ w'.cell? ⟨gb145, 2, none⟩ = some (.int .i64 a1_2)) (ds := []) #[false, false, false, false, false, false, false, false, false, false] (by kernel_rfl) rfl rfl ⟨(blk_cell BK168.out 0).trans rfl, (blk_cell BK168.out 1).trans rfl, (blk_cell BK168.out 2).trans rfl, (blk_cell BK164.out 0).trans rfl, (blk_cell BK164.out 1).trans rfl, (blk_cell BK164.out 2).trans rfl, (blk_cell BK164.out 3).trans rfl, (blk_cell BK164.out 4).trans rfl, (blk_cell BK164.out 5).trans rfl, (blk_cell BK145.out 0).trans rfl, (blk_cell BK145.out 1).trans rfl, (blk_cell BK145.out 2).trans rfl⟩ (fun hHeld => ?_); refine with_tabW decanterlaw23_CapsMore.tab15 decanterlaw23_CapsMore.bits15 (fun HT_ HW_ => ?_)
                    generalize w132.drew = w133 at HO_165002 BK144 BK145 BK146 BK164 BK165 BK168 HB hHeld ⊢
                    refine pure_ (i := 6) (N := some 115) (v := ?_) (a' := ?_) #[false, false, false, false, false, false, true, false, false, false] rfl rfl (any_of HT_.out (by kernel_rfl)) (fun _ _ _ h => h) (Or.inl ⟨by rfl, ?_⟩) ?_ ?_
                    rotate_left
                    · intro w'
                      go_simp
                      with_reducible rfl
                    rotate_left
                    · simp only [Act.put, List.setIfInBounds_toArray, List.set_cons_zero, List.set_cons_succ, i64_w, i32_w]
                      rfl
                    refine take_ (i := 0) (N := some 109) (v := ?_) (a' := ?_) #[true, false, false, false, false, false, true, false, false, false] rfl rfl (take_ofW HT_.out HW_.out (by kernel_rfl)) (fun _ _ _ h => h) (Or.inl ⟨by rfl, ?_⟩) hHeld ?_ ?_
                    rotate_left
                    · rintro w' ⟨s0, s1, s2, s3, s4, s5, s6, s7, s8, s9, s10, s11⟩
                      go_simp
                      with_reducible rfl
                    rotate_left
                    · simp only [Act.put, List.setIfInBounds_toArray, List.set_cons_zero, List.set_cons_succ, i64_w, i32_w]
                      rfl
                    refine take_ (i := 1) (N := some 110) (v := ?_) (a' := ?_) #[true, true, false, false, false, false, true, false, false, false] rfl rfl (take_ofW HT_.out HW_.out (by kernel_rfl)) (fun _ _ _ h => h) (Or.inl ⟨by rfl, ?_⟩) hHeld ?_ ?_
                    rotate_left
                    · rintro w' ⟨s0, s1, s2, s3, s4, s5, s6, s7, s8, s9, s10, s11⟩
                      go_simp
                      with_reducible rfl
                    rotate_left
                    · simp only [Act.put, List.setIfInBounds_toArray, List.set_cons_zero, List.set_cons_succ, i64_w, i32_w]
                      rfl
                    refine take_ (i := 3) (N := some 112) (v := ?_) (a' := ?_) #[true, true, false, true, false, false, true, false, false, false] rfl rfl (take_ofW HT_.out HW_.out (by kernel_rfl)) (fun _ _ _ h => h) (Or.inl ⟨by rfl, ?_⟩) hHeld ?_ ?_
                    rotate_left
                    · rintro w' ⟨s0, s1, s2, s3, s4, s5, s6, s7, s8, s9, s10, s11⟩
                      go_simp
                      with_reducible rfl
                    rotate_left
                    · simp only [Act.put, List.setIfInBounds_toArray, List.set_cons_zero, List.set_cons_succ, i64_w, i32_w]
                      rfl
                    refine take_ (i := 4) (N := some 113) (v := ?_) (a' := ?_) #[true, true, false, true, true, false, true, false, false, false] rfl rfl (take_ofW HT_.out HW_.out (by kernel_rfl)) (fun _ _ _ h => h) (Or.inl ⟨by rfl, ?_⟩) hHeld ?_ ?_
                    rotate_left
                    · rintro w' ⟨s0, s1, s2, s3, s4, s5, s6, s7, s8, s9, s10, s11⟩
                      go_simp
                      with_reducible rfl
                    rotate_left
                    · simp only [Act.put, List.setIfInBounds_toArray, List.set_cons_zero, List.set_cons_succ, i64_w, i32_w]
                      rfl
                    refine one_ (i := 2) (N := some 111) #[true, true, true, true, true, false, true, false, false, false] rfl rfl (one_of HT_.out (by kernel_rfl)) (by decide) (fun K hK => ?_)
                    refine goes_ Tryd.func11 (by kernel_rfl) rfl #[.agg #[.int .i64 (wrap64 (a1_0 + (wrap64 (a3)))), .int .i64 a1_1, .int .i64 a1_2], .agg #[.int .i64 t156, .string t157, .slice Ao74 t158.length co74, .string t161, .int .i64 t162, .int .i64 t163]] (by rfl) rfl rfl (by (try simp only [List.map_toArray, List.map_cons, List.map_nil]); first | done | rfl | (simp only [List.length_drop, List.length_take]; rfl)) ?_
                    with_reducible refine (caps_Price.calls (wrap64 (a1_0 + (wrap64 (a3)))) a1_1 a1_2 t156 t157 _ _ t158 t161 t162 t163 t169 _ ?side1 ?side2 A118.out).mono ?_
                    (case side1 => repeat (first | exact (Kd.R_reads' HO_165002.out).2.2 | (with_reducible refine Kd.C_alloc ?_ _) | (with_reducible refine Kd.C_drewN ?_ _) | (with_reducible refine Kd.C_drew ?_)))
                    (case side2 => exact (Kd.R_reads' HO_165002.out).2.1)
                    rintro e w134 ⟨rfl, hb⟩
                    refine ⟨_, rfl, ?_⟩
                    have n0_ := Aside0.mk (Kd.R_below (by (with_reducible repeat (first | apply Kd.R_alloc | apply Kd.R_drewN | apply Kd.R_drew)); exact HO_165002.out) hb)
                    have n1_ := Aside0.mk (blk_below (g := gb144) (o := .cells #[.int .i64 a0_0, .int .i64 a0_1, .int .i64 a0_2, .int .i64 a0_3, .int .i64 a0_4] 23 (0, 0)) (by (with_reducible repeat (first | refine blk_drewN ?_ _ | refine blk_drew ?_ | refine blk_alloc ?_ _)); exact BK144.out) hb)
                    have n2_ := Aside0.mk (blk_below (g := gb145) (o := .cells #[.int .i64 a1_0, .int .i64 a1_1, .int .i64 a1_2] 25 (0, 0)) (by (with_reducible repeat (first | refine blk_drewN ?_ _ | refine blk_drew ?_ | refine blk_alloc ?_ _)); exact BK145.out) hb)
                    have n3_ := Aside0.mk (blk_below (g := gb146) (o := .cells #[.int .i64 a2_0, .string a2_1, .slice A2_2 l2_2.length c2_2, .string a2_3, .int .i64 a2_4, .int .i64 a2_5] 28 (0, 0)) (by (with_reducible repeat (first | refine blk_drewN ?_ _ | refine blk_drew ?_ | refine blk_alloc ?_ _)); exact BK146.out) hb)
                    have n4_ := Aside0.mk (blk_below (g := gb164) (o := .cells #[.int .i64 t156, .string t157, .slice Ao74 t158.length co74, .string t161, .int .i64 t162, .int .i64 t163] 37 (0, 0)) (by (with_reducible repeat (first | refine blk_drewN ?_ _ | refine blk_drew ?_ | refine blk_alloc ?_ _)); exact BK164.out) hb)
                    have n5_ := Aside0.mk (blk_below (g := gb165) (o := .cells #[.int .i64 a0_0, .int .i64 (wrap64 (a0_1 + (wrap64 (a3)))), .int .i64 (wrap64 (a0_2 + (wrap64 (a3)))), .int .i64 (wrap64 (a0_3 + (wrap64 (a3)))), .int .i64 (wrap64 (a0_4 + (wrap64 (a3))))] 32 (0, 0)) (by (with_reducible repeat (first | refine blk_drewN ?_ _ | refine blk_drew ?_ | refine blk_alloc ?_ _)); exact BK165.out) hb)
                    have n6_ := Aside0.mk (blk_below (g := gb168) (o := .cells #[.int .i64 (wrap64 (a1_0 + (wrap64 (a3)))), .int .i64 a1_1, .int .i64 a1_2] 40 (0, 0)) (by (with_reducible repeat (first | refine blk_drewN ?_ _ | refine blk_drew ?_ | refine blk_alloc ?_ _)); exact BK168.out) hb)
                    have n7_ := Aside0.mk (below_step (by repeat (first | (with_reducible first | exact HB.out | apply below_alloc | apply pw_below_drewN | apply below_drew1 | refine below_set ?_ GE144.out | refine below_set ?_ GE145.out | refine below_set ?_ GE146.out | refine below_set ?_ GE164.out | refine below_set ?_ GE165.out | refine below_set ?_ GE168.out) | exact HB.out)) hb)
                    clear HO_165002
                    clear BK144
                    clear BK145
                    clear BK146
                    clear BK164
                    clear BK165
                    clear BK168
                    clear HB
                    have HO_165002 := n0_
                    have BK144 := n1_
                    have BK145 := n2_
                    have BK146 := n3_
                    have BK164 := n4_
                    have BK165 := n5_
                    have BK168 := n6_
                    have HB := n7_
                    clear n0_ n1_ n2_ n3_ n4_ n5_ n6_ n7_
                    (try clear hb)
                    (try clear hb2)
                    (try clear hk)
                    (try clear hi)
                    refine hK.out _ _ ⟨(blk_cell BK168.out 0).trans rfl, (blk_cell BK168.out 1).trans rfl, (blk_cell BK168.out 2).trans rfl, (blk_cell BK164.out 0).trans rfl, (blk_cell BK164.out 1).trans rfl, (blk_cell BK164.out 2).trans rfl, (blk_cell BK164.out 3).trans rfl, (blk_cell BK164.out 4).trans rfl, (blk_cell BK164.out 5).trans rfl, (blk_cell BK145.out 0).trans rfl, (blk_cell BK145.out 1).trans rfl, (blk_cell BK145.out 2).trans rfl⟩ (fun hHeld => ?_)
                    clear hK K
                    refine norm_ (a' := ?_) ?_ ?_
                    rotate_left
                    · show Act.put _ (some 111) _ = _
                      simp only [Act.put, List.setIfInBounds_toArray, List.set_cons_zero, List.set_cons_succ, i64_w, i32_w]
                      rfl
                    refine one_ (i := 5) (N := some 114) #[true, true, true, true, true, true, true, false, false, false] rfl rfl (one_of HT_.out (by kernel_rfl)) (by decide) (fun K hK => ?_)
                    refine goes_ Tryd.func11 (by kernel_rfl) rfl #[.agg #[.int .i64 a1_0, .int .i64 a1_1, .int .i64 a1_2], .agg #[.int .i64 t156, .string t157, .slice Ao74 t158.length co74, .string t161, .int .i64 t162, .int .i64 t163]] (by rfl) rfl rfl (by (try simp only [List.map_toArray, List.map_cons, List.map_nil]); first | done | rfl | (simp only [List.length_drop, List.length_take]; rfl)) ?_
                    with_reducible refine (caps_Price.calls a1_0 a1_1 a1_2 t156 t157 _ _ t158 t161 t162 t163 t170 _ ?side1 ?side2 A119.out).mono ?_
                    (case side1 => repeat (first | exact (Kd.R_reads' HO_165002.out).2.2 | (with_reducible refine Kd.C_alloc ?_ _) | (with_reducible refine Kd.C_drewN ?_ _) | (with_reducible refine Kd.C_drew ?_)))
                    (case side2 => exact (Kd.R_reads' HO_165002.out).2.1)
                    rintro e w135 ⟨rfl, hb⟩
                    refine ⟨_, rfl, ?_⟩
                    have n0_ := Aside0.mk (Kd.R_below (by (with_reducible repeat (first | apply Kd.R_alloc | apply Kd.R_drewN | apply Kd.R_drew)); exact HO_165002.out) hb)
                    have n1_ := Aside0.mk (blk_below (g := gb144) (o := .cells #[.int .i64 a0_0, .int .i64 a0_1, .int .i64 a0_2, .int .i64 a0_3, .int .i64 a0_4] 23 (0, 0)) (by (with_reducible repeat (first | refine blk_drewN ?_ _ | refine blk_drew ?_ | refine blk_alloc ?_ _)); exact BK144.out) hb)
                    have n2_ := Aside0.mk (blk_below (g := gb145) (o := .cells #[.int .i64 a1_0, .int .i64 a1_1, .int .i64 a1_2] 25 (0, 0)) (by (with_reducible repeat (first | refine blk_drewN ?_ _ | refine blk_drew ?_ | refine blk_alloc ?_ _)); exact BK145.out) hb)
                    have n3_ := Aside0.mk (blk_below (g := gb146) (o := .cells #[.int .i64 a2_0, .string a2_1, .slice A2_2 l2_2.length c2_2, .string a2_3, .int .i64 a2_4, .int .i64 a2_5] 28 (0, 0)) (by (with_reducible repeat (first | refine blk_drewN ?_ _ | refine blk_drew ?_ | refine blk_alloc ?_ _)); exact BK146.out) hb)
                    have n4_ := Aside0.mk (blk_below (g := gb164) (o := .cells #[.int .i64 t156, .string t157, .slice Ao74 t158.length co74, .string t161, .int .i64 t162, .int .i64 t163] 37 (0, 0)) (by (with_reducible repeat (first | refine blk_drewN ?_ _ | refine blk_drew ?_ | refine blk_alloc ?_ _)); exact BK164.out) hb)
                    have n5_ := Aside0.mk (blk_below (g := gb165) (o := .cells #[.int .i64 a0_0, .int .i64 (wrap64 (a0_1 + (wrap64 (a3)))), .int .i64 (wrap64 (a0_2 + (wrap64 (a3)))), .int .i64 (wrap64 (a0_3 + (wrap64 (a3)))), .int .i64 (wrap64 (a0_4 + (wrap64 (a3))))] 32 (0, 0)) (by (with_reducible repeat (first | refine blk_drewN ?_ _ | refine blk_drew ?_ | refine blk_alloc ?_ _)); exact BK165.out) hb)
                    have n6_ := Aside0.mk (blk_below (g := gb168) (o := .cells #[.int .i64 (wrap64 (a1_0 + (wrap64 (a3)))), .int .i64 a1_1, .int .i64 a1_2] 40 (0, 0)) (by (with_reducible repeat (first | refine blk_drewN ?_ _ | refine blk_drew ?_ | refine blk_alloc ?_ _)); exact BK168.out) hb)
                    have n7_ := Aside0.mk (below_step (by repeat (first | (with_reducible first | exact HB.out | apply below_alloc | apply pw_below_drewN | apply below_drew1 | refine below_set ?_ GE144.out | refine below_set ?_ GE145.out | refine below_set ?_ GE146.out | refine below_set ?_ GE164.out | refine below_set ?_ GE165.out | refine below_set ?_ GE168.out) | exact HB.out)) hb)
                    clear HO_165002
                    clear BK144
                    clear BK145
                    clear BK146
                    clear BK164
                    clear BK165
                    clear BK168
                    clear HB
                    have HO_165002 := n0_
                    have BK144 := n1_
                    have BK145 := n2_
                    have BK146 := n3_
                    have BK164 := n4_
                    have BK165 := n5_
                    have BK168 := n6_
                    have HB := n7_
                    clear n0_ n1_ n2_ n3_ n4_ n5_ n6_ n7_
                    (try clear hb)
                    (try clear hb2)
                    (try clear hk)
                    (try clear hi)
                    refine hK.out _ _ ⟨(blk_cell BK168.out 0).trans rfl, (blk_cell BK168.out 1).trans rfl, (blk_cell BK168.out 2).trans rfl, (blk_cell BK164.out 0).trans rfl, (blk_cell BK164.out 1).trans rfl, (blk_cell BK164.out 2).trans rfl, (blk_cell BK164.out 3).trans rfl, (blk_cell BK164.out 4).trans rfl, (blk_cell BK164.out 5).trans rfl, (blk_cell BK145.out 0).trans rfl, (blk_cell BK145.out 1).trans rfl, (blk_cell BK145.out 2).trans rfl⟩ (fun hHeld => ?_)
                    clear hK K
                    refine norm_ (a' := ?_) ?_ ?_
                    rotate_left
                    · show Act.put _ (some 114) _ = _
                      simp only [Act.put, List.setIfInBounds_toArray, List.set_cons_zero, List.set_cons_succ, i64_w, i32_w]
                      rfl
                    refine pure_ (i := 7) (N := some 116) (v := ?_) (a' := ?_) #[true, true, true, true, true, true, true, true, false, false] rfl rfl (any_of HT_.out (by kernel_rfl)) (fun _ _ _ h => h) (Or.inl ⟨by rfl, ?_⟩) ?_ ?_
                    rotate_left
                    · intro w'
                      go_simp
                      with_reducible rfl
                    rotate_left
                    · simp only [Act.put, List.setIfInBounds_toArray, List.set_cons_zero, List.set_cons_succ, i64_w, i32_w]
                      rfl
                    refine pure_ (i := 8) (N := some 117) (v := ?_) (a' := ?_) #[true, true, true, true, true, true, true, true, true, false] rfl rfl (any_of HT_.out (by kernel_rfl)) (fun _ _ _ h => h) (Or.inl ⟨by rfl, ?_⟩) ?_ ?_
                    rotate_left
                    · intro w'
                      go_simp
                      with_reducible rfl
                    rotate_left
                    · simp only [Act.put, List.setIfInBounds_toArray, List.set_cons_zero, List.set_cons_succ, i64_w, i32_w]
                      rfl
                    refine pure_ (i := 9) (N := some 8) (v := ?_) (a' := ?_) #[true, true, true, true, true, true, true, true, true, true] rfl rfl (any_of HT_.out (by kernel_rfl)) (fun _ _ _ h => h) (Or.inl ⟨by rfl, ?_⟩) ?_ ?_
                    rotate_left
                    · intro w'
                      go_simp
                      with_reducible rfl
                    rotate_left
                    · simp only [Act.put, List.setIfInBounds_toArray, List.set_cons_zero, List.set_cons_succ, i64_w, i32_w]
                      rfl
                    refine done_ (done_of HT_.out (by kernel_rfl)) ?_
                    try go_wp2
                    go_ret
                    exact ⟨by first | rfl | (simp [errW_none, errW_some] <;> rfl) | (simp [*, errW_none, errW_some] <;> rfl), by repeat (first | (with_reducible first | exact HB.out | apply below_alloc | apply pw_below_drewN | apply below_drew1 | refine below_set ?_ GE144.out | refine below_set ?_ GE145.out | refine below_set ?_ GE146.out | refine below_set ?_ GE164.out | refine below_set ?_ GE165.out | refine below_set ?_ GE168.out) | exact HB.out)⟩

end Go.Proofs.YtfkgklbaafbbiaaDoor.PCaps
