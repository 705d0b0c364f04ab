-- Laid by a program of this session (tools/patch_print.py) out of the translation. Not trusted: Lean checks it.
import Derived.Test.YtcdkcnegejhnhaaPASamx0
import Derived.Test.YtcdkcnegejhnhaaPASamx2
import Derived.Test.YtcdkcnegejhnhaaPASamx3
import Derived.Test.YtcdkcnegejhnhaaPASamx4
namespace Go.Proofs.Ytcdkcnegejhnhaa.PASam
open Go.RowKit Go.Proofs.YtcdkcnegejhnhaaW.PrintWords Go.Proofs.YtcdkcnegejhnhaaW.PrintLast Go.Proofs.YtcdkcnegejhnhaaW.PrintMore
attribute [local go_sem] max2_int min2_int max_two min_two max_three min_three max_four min_four   -- for this text's walks alone
set_option linter.unusedVariables false
set_option linter.unusedSimpArgs false

/-! ### arena_Same: function 50 -/
def arena_Same.sa : List S105 → List S105 → Bool
  | [], [] => true
  | x :: r, y :: s => ((x.f0.toList == y.f0.toList) && (x.f1.toList == y.f1.toList)) && arena_Same.sa r s
  | [], _ :: _ => false
  | _ :: _, [] => false
mutual
def arena_Same.sl : List S31 → List S31 → Bool
  | [], [] => true
  | x :: r, y :: s => arena_Same.sn x y && arena_Same.sl r s
  | [], _ :: _ => false
  | _ :: _, [] => false
def arena_Same.sn : S31 → S31 → Bool
  | ⟨n, a, t, i⟩, ⟨m, b, u, j⟩ => (((n.toList == m.toList) && (t.toList == u.toList)) && arena_Same.sa a b) && arena_Same.sl i j
end
mutual
def arena_Same.dl : List S31 → Nat
  | [] => 0
  | x :: r => max (arena_Same.dn x) (arena_Same.dl r)
def arena_Same.dn : S31 → Nat
  | ⟨_, _, _, i⟩ => arena_Same.dl i + 1
end
def arena_Same.f (l0 l1 : List S31) : Option Bool := some (arena_Same.sl l0 l1)
theorem arena_Same.sn_eq (x y : S31) : arena_Same.sn x y = ((((x.f0.toList == y.f0.toList) && (x.f2.toList == y.f2.toList)) && arena_Same.sa x.f1 y.f1) && arena_Same.sl x.f3 y.f3) := by cases x; cases y; rfl
theorem arena_Same.dl_at : ∀ {l : List S31} {i : Nat} {x : S31}, l[i]? = some x → arena_Same.dl x.f3 + 1 ≤ arena_Same.dl l
  | [], i, x, h => by simp at h
  | y :: r, 0, x, h => by
    obtain rfl : y = x := by simpa using h
    have e : arena_Same.dn y = arena_Same.dl y.f3 + 1 := by cases y; rfl
    simp only [arena_Same.dl]
    omega
  | y :: r, i + 1, x, h => by
    have := arena_Same.dl_at (l := r) (i := i) (x := x) (by simpa using h)
    simp only [arena_Same.dl]
    omega
theorem arena_Same.sa_len : ∀ {l r : List S105}, l.length ≠ r.length → arena_Same.sa l r = false
  | [], [], h => absurd rfl h
  | _ :: _, [], _ => rfl
  | [], _ :: _, _ => rfl
  | x :: r, y :: s, h => by
    rw [arena_Same.sa, arena_Same.sa_len (by simpa using h), Bool.and_false]
theorem arena_Same.sl_len : ∀ {l r : List S31}, l.length ≠ r.length → arena_Same.sl l r = false
  | [], [], h => absurd rfl h
  | _ :: _, [], _ => by simp [arena_Same.sl]
  | [], _ :: _, _ => by simp [arena_Same.sl]
  | x :: r, y :: s, h => by
    rw [arena_Same.sl, arena_Same.sl_len (by simpa using h), Bool.and_false]
theorem arena_Same.drop_get {α : Type} {l : List α} {i : Nat} (h : i < l.length) : ∃ x, l[i]? = some x ∧ l.drop i = x :: l.drop (i + 1) := ⟨l[i], List.getElem?_eq_getElem h, List.drop_eq_getElem_cons h⟩
theorem arena_Same.rdA {l : List S105} {i : Nat} {x : S105} (h : l[i]? = some x) : rd_T105 l (i : Int) = x := by
  unfold rd_T105
  rw [Int.toNat_natCast, List.getD_eq_getElem?_getD, h, Option.getD_some]
theorem arena_Same.rdN {l : List S31} {i : Nat} {x : S31} (h : l[i]? = some x) : rd_T31 l (i : Int) = x := by
  unfold rd_T31
  rw [Int.toNat_natCast, List.getD_eq_getElem?_getD, h, Option.getD_some]
set_option maxRecDepth 100000 in
set_option maxHeartbeats 4000000 in
theorem arena_Same.eqA (A0 : Option Addr) (c0 : Nat) (l0 : List S105) (A1 : Option Addr) (c1 : Nat) (l1 : List S105) (w : World) (hr0 : Kd.C k105 w A0 l0.length l0) (hr1 : Kd.C k105 w A1 l1.length l1) :
    Calls Try.prog 82 #[.slice A0 l0.length c0, .slice A1 l1.length c1] w fun e w' => e = .returned (.bool (arena_Same.sa l0 l1)) ∧ ∃ n, w' = w.drewN n := by
  have hu := Try.underlying105
  have hm := hr0.2.1
  by_cases hl : l0.length = l1.length
  · have b0 : ((l0.length : Int) == (l1.length : Int)) = true := beq_iff_eq.2 (by omega)
    have b1 : ((l0.length : Int) != (l1.length : Int)) = false := bne_eq_false_iff_eq.2 (by omega)
    have HL := Lib.hid hl
    have H0 := Lib.hid hr0
    have H1 := Lib.hid hr1
    obtain ⟨R, hR⟩ : ∃ R, arena_Same.sa l0 l1 = R := ⟨_, rfl⟩
    rw [hR]
    have HR := Lib.hid (show arena_Same.sa (l0.drop 0) (l1.drop 0) = R from hR)
    clear hl hr0 hr1 hR
    go_enter Try.func82, Try.ntmps82
    go_wp2
    go_loopg [13] (l0.length + 1) (fun gg s13 wr => ∃ i : Nat, s13 = .int .i64 (i : Int) ∧ i ≤ l0.length ∧ i + gg = l0.length + 1 ∧ Hid (arena_Same.sa (l0.drop i) (l1.drop i) = R) ∧ ∃ n, wr = w.drewN n)
    case atStart => exact ⟨0, rfl, Nat.zero_le _, by omega, HR, 0, rfl⟩
    case round =>
      clear HR b0 b1
      obtain ⟨i, rfl, hi, hgk, HF, n, rfl⟩ := hrel
      by_cases hlt : i < l0.length
      · obtain ⟨x, hx, ex⟩ := arena_Same.drop_get hlt
        obtain ⟨y, hy, ey⟩ := arena_Same.drop_get (l := l1) (i := i) (by rw [← HL.out]; exact hlt)
        obtain ⟨ad0, hA0, p0, p1⟩ := at_T105 H0.out (i : Int) (by omega) (by omega)
        obtain ⟨ad1, hA1, q0, q1⟩ := at_T105 H1.out (i : Int) (by omega) (by have := HL.out; omega)
        rw [arena_Same.rdA hx, Int.toNat_natCast] at p0 p1
        rw [arena_Same.rdA hy, Int.toNat_natCast] at q0 q1
        cases hA0
        cases hA1
        have i1 : (i : Int) < (l0.length : Int) := by omega
        have i2 : (i : Int) < (l1.length : Int) := by have := HL.out; omega
        have i0 : (0 : Int) ≤ (i : Int) := by omega
        have hf := HF.out
        rw [ex, ey, arena_Same.sa] at hf
        clear HF hx hy ex ey
        by_cases e0 : x.f0.toList = y.f0.toList
        · by_cases e1 : x.f1.toList = y.f1.toList
          · have HF2 := Lib.hid (show arena_Same.sa (l0.drop (i + 1)) (l1.drop (i + 1)) = R by rw [← hf, e0, e1]; simp)
            clear hf
            go_wp2
            go_quiet (fail)
            go_wp2
            go_roundg (gk - 1)
            case measure => omega
            case rel => exact ⟨i + 1, by first | rfl | go_num, by omega, by omega, HF2, by first | exact ⟨_, rfl⟩ | exact ⟨_, World.drewN_drewN _ _ _⟩⟩
          · have HF2 := Lib.hid (show R = false by rw [← hf, beq_eq_false_iff_ne.2 e1]; simp)
            clear hf
            go_wp2
            go_quiet (fail)
            go_wp2
            go_ret
            exact ⟨by rw [HF2.out]; rfl, by first | exact ⟨_, rfl⟩ | exact ⟨_, World.drewN_drewN _ _ _⟩⟩
        · have HF2 := Lib.hid (show R = false by rw [← hf, beq_eq_false_iff_ne.2 e0]; simp)
          clear hf
          go_wp2
          go_quiet (fail)
          go_wp2
          go_ret
          exact ⟨by rw [HF2.out]; rfl, by first | exact ⟨_, rfl⟩ | exact ⟨_, World.drewN_drewN _ _ _⟩⟩
      · obtain rfl : i = l0.length := by omega
        have hf := HF.out
        rw [List.drop_length, List.drop_of_length_le (by rw [HL.out]; exact Nat.le_refl _)] at hf
        have HF2 := Lib.hid hf
        clear hf HF
        go_wp2
        go_ret
        exact ⟨by rw [← HF2.out]; rfl, _, rfl⟩
  · rw [arena_Same.sa_len hl]
    have b0 : ((l0.length : Int) == (l1.length : Int)) = false := beq_eq_false_iff_ne.2 (by omega)
    have b1 : ((l0.length : Int) != (l1.length : Int)) = true := bne_iff_ne.2 (by omega)
    clear hl hr0 hr1
    go_enter Try.func82, Try.ntmps82
    go_wp2
    go_ret
    exact ⟨rfl, 0, rfl⟩
theorem arena_Same.bd {B : Nat} {w w1 : World} (h : Below B w w1) (n : Nat) : Below B w (w1.drewN n) := h.trans ⟨rfl, rfl, rfl, Nat.le_refl _, fun _ _ => rfl⟩
set_option maxRecDepth 100000 in
set_option maxHeartbeats 4000000 in
theorem arena_Same.closure {x y : S31} {cs ds : List Value} (w : World) (hx : k31.K w x cs) (hy : k31.K w y ds)
    (ih : ∀ (A0 : Option Addr) (c0 : Nat) (A1 : Option Addr) (c1 : Nat) (w : World), Kd.C k31 w A0 x.f3.length x.f3 → Kd.C k31 w A1 y.f3.length y.f3 →
      Calls Try.prog 50 #[.slice A0 x.f3.length c0, .slice A1 y.f3.length c1] w fun e w' => e = .returned (.bool (arena_Same.sl x.f3 y.f3)) ∧ Below w.heap.size w w') :
    Calls Try.prog 81 #[.agg cs.toArray, .agg ds.toArray] w fun e w' => e = .returned (.bool (arena_Same.sn x y)) ∧ Below w.heap.size w w' := by
  obtain ⟨A1, c1, A3, c3, rfl, _, hC1, _, hC3⟩ := k31_open hx
  obtain ⟨B1, d1, B3, d3, rfl, _, hD1, _, hD3⟩ := k31_open hy
  rw [arena_Same.sn_eq]
  have hB : Below w.heap.size w ((w.alloc (.cells #[.string x.f0, .slice A1 x.f1.length c1, .string x.f2, .slice A3 x.f3.length c3] 31)).alloc (.cells #[.string y.f0, .slice B1 y.f1.length d1, .string y.f2, .slice B3 y.f3.length d3] 31)) := ((Below.refl _ _).alloc (Nat.le_refl _) _).alloc (by rw [World.size_alloc]; omega) _
  have CE := Lib.hid (fun (W : World) (hW : Below w.heap.size w W) => arena_Same.eqA A1 c1 x.f1 B1 d1 y.f1 W (Kd.C_below hC1 hW) (Kd.C_below hD1 hW))
  have CS := Lib.hid (fun (W : World) (hW : Below w.heap.size w W) => ih A3 c3 B3 d3 W (Kd.C_below hC3 hW) (Kd.C_below hD3 hW))
  have HB := Lib.hid hB
  clear hx hy ih hC1 hC3 hD1 hD3 hB
  by_cases e0 : x.f0.toList = y.f0.toList
  · by_cases e1 : x.f2.toList = y.f2.toList
    · cases hq : arena_Same.sa x.f1 y.f1
      · have HQ := Lib.hid hq
        clear hq
        rw [Bool.and_false, Bool.false_and]
        go_enter Try.func81, Try.ntmps81
        go_wp2_with (go_at_call 82; refine (CE.out _ (by first | exact HB.out | exact arena_Same.bd HB.out _)).mono ?_; rintro e w1 ⟨rfl, n, rfl⟩; rw [HQ.out])
        go_ret
        exact ⟨rfl, arena_Same.bd HB.out _⟩
      · have HQ := Lib.hid hq
        clear hq
        rw [beq_iff_eq.2 e0, beq_iff_eq.2 e1, Bool.and_self, Bool.and_self, Bool.true_and]
        go_enter Try.func81, Try.ntmps81
        go_wp2_with (first | (go_at_call 82; refine (CE.out _ (by first | exact HB.out | exact arena_Same.bd HB.out _)).mono ?_; rintro e w1 ⟨rfl, n, rfl⟩; rw [HQ.out]) | (go_at_call 50; refine (CS.out _ (by first | exact HB.out | exact arena_Same.bd HB.out _)).mono ?_; rintro e w2 ⟨rfl, hb2⟩))
        go_ret
        exact ⟨rfl, (arena_Same.bd HB.out n).trans (hb2.mono (arena_Same.bd HB.out n).size)⟩
    · rw [beq_eq_false_iff_ne.2 e1, Bool.and_false, Bool.false_and, Bool.false_and]
      go_enter Try.func81, Try.ntmps81
      go_wp2
      go_ret
      exact ⟨rfl, by first | exact HB.out | exact arena_Same.bd HB.out _⟩
  · rw [beq_eq_false_iff_ne.2 e0, Bool.false_and, Bool.false_and, Bool.false_and]
    go_enter Try.func81, Try.ntmps81
    go_wp2
    go_ret
    exact ⟨rfl, by first | exact HB.out | exact arena_Same.bd HB.out _⟩
set_option maxRecDepth 100000 in
set_option maxHeartbeats 4000000 in
theorem arena_Same.any (A0 : Option Addr) (c0 : Nat) (l0 : List S31) (A1 : Option Addr) (c1 : Nat) (l1 : List S31) (w : World) (hr0 : Kd.C k31 w A0 l0.length l0) (hr1 : Kd.C k31 w A1 l1.length l1)
    (ih : ∀ (i : Nat) (x y : S31), l0[i]? = some x → ∀ (A0 : Option Addr) (c0 : Nat) (A1 : Option Addr) (c1 : Nat) (w : World), Kd.C k31 w A0 x.f3.length x.f3 → Kd.C k31 w A1 y.f3.length y.f3 →
      Calls Try.prog 50 #[.slice A0 x.f3.length c0, .slice A1 y.f3.length c1] w fun e w' => e = .returned (.bool (arena_Same.sl x.f3 y.f3)) ∧ Below w.heap.size w w') :
    Calls Try.prog 80 #[.slice A0 l0.length c0, .slice A1 l1.length c1, .func (.func 81) #[] #[]] w fun e w' => e = .returned (.bool (arena_Same.sl l0 l1)) ∧ Below w.heap.size w w' := by
  have hm := hr0.2.1
  by_cases hl : l0.length = l1.length
  · have b0 : ((l0.length : Int) == (l1.length : Int)) = true := beq_iff_eq.2 (by omega)
    have b1 : ((l0.length : Int) != (l1.length : Int)) = false := bne_eq_false_iff_eq.2 (by omega)
    have HL := Lib.hid hl
    have H0 := Lib.hid hr0
    have H1 := Lib.hid hr1
    have HI := Lib.hid ih
    obtain ⟨R, hR⟩ : ∃ R, arena_Same.sl l0 l1 = R := ⟨_, rfl⟩
    rw [hR]
    have HR := Lib.hid (show arena_Same.sl (l0.drop 0) (l1.drop 0) = R from hR)
    clear hl hr0 hr1 hR ih
    go_enter Try.func80, Try.ntmps80
    go_wp2
    go_loopg [7, 8, 9, 17] (l0.length + 1) (fun gg s7 s8 s9 s17 wr => ∃ i : Nat, s17 = .int .i64 (i : Int) ∧ i ≤ l0.length ∧ i + gg = l0.length + 1 ∧ Hid (arena_Same.sl (l0.drop i) (l1.drop i) = R) ∧ Hid (Below w.heap.size w wr))
    case atStart => exact ⟨0, rfl, Nat.zero_le _, by omega, HR, Lib.hid (Below.refl _ _)⟩
    case round =>
      clear HR b0 b1
      obtain ⟨i, rfl, hi, hgk, HF, HB⟩ := hrel
      by_cases hlt : i < l0.length
      · obtain ⟨x, hx, ex⟩ := arena_Same.drop_get hlt
        obtain ⟨y, hy, ey⟩ := arena_Same.drop_get (l := l1) (i := i) (by rw [← HL.out]; exact hlt)
        obtain ⟨ad0, A1, c1, A3, c3, hA0, p0, p1, p2, p3, xl1, xC1, xl3, xC3⟩ := at_T31 (Kd.C_below H0.out HB.out) (i : Int) (by omega) (by omega)
        obtain ⟨ad1, B1, d1, B3, d3, hA1, q0, q1, q2, q3, yl1, yC1, yl3, yC3⟩ := at_T31 (Kd.C_below H1.out HB.out) (i : Int) (by omega) (by have := HL.out; omega)
        rw [arena_Same.rdN hx] at p0 p1 p2 p3 xl1 xC1 xl3 xC3
        rw [arena_Same.rdN hy] at q0 q1 q2 q3 yl1 yC1 yl3 yC3
        rw [Int.toNat_natCast] at p0 p1 p2 p3 q0 q1 q2 q3
        cases hA0
        cases hA1
        have i1 : (i : Int) < (l0.length : Int) := by omega
        have i2 : (i : Int) < (l1.length : Int) := by have := HL.out; omega
        have i0 : (0 : Int) ≤ (i : Int) := by omega
        have hf := HF.out
        rw [ex, ey] at hf
        have hfe : arena_Same.sl (x :: l0.drop (i + 1)) (y :: l1.drop (i + 1)) = (arena_Same.sn x y && arena_Same.sl (l0.drop (i + 1)) (l1.drop (i + 1))) := by simp only [arena_Same.sl]
        rw [hfe] at hf
        have HC := Lib.hid (fun (W : World) (hW : Below wr.heap.size wr W) => arena_Same.closure W (k31_mk W x xl1 (Kd.C_below xC1 hW) xl3 (Kd.C_below xC3 hW)) (k31_mk W y yl1 (Kd.C_below yC1 hW) yl3 (Kd.C_below yC3 hW)) (HI.out i x y hx))
        have hb0 : Below wr.heap.size wr (wr.alloc (.cells #[.string x.f0, .slice A1 x.f1.length c1, .string x.f2, .slice A3 x.f3.length c3] 31)) := (Below.refl _ _).alloc (Nat.le_refl _) _
        replace q0 := (hb0.cell (World.block_lt_of_cell? wr _ q0)).trans q0
        replace q1 := (hb0.cell (World.block_lt_of_cell? wr _ q1)).trans q1
        replace q2 := (hb0.cell (World.block_lt_of_cell? wr _ q2)).trans q2
        replace q3 := (hb0.cell (World.block_lt_of_cell? wr _ q3)).trans q3
        have HB0 := Lib.hid (show Below wr.heap.size wr ((wr.alloc (.cells #[.string x.f0, .slice A1 x.f1.length c1, .string x.f2, .slice A3 x.f3.length c3] 31)).alloc (.cells #[.string y.f0, .slice B1 y.f1.length d1, .string y.f2, .slice B3 y.f3.length d3] 31)) from hb0.alloc (by rw [World.size_alloc]; omega) _)
        clear hb0
        clear HF hx hy ex ey hfe xl1 xC1 xl3 xC3 yl1 yC1 yl3 yC3
        by_cases hs : arena_Same.sn x y = true
        · have HS := Lib.hid hs
          rw [hs, Bool.true_and] at hf
          have HF2 := Lib.hid hf
          clear hf hs
          go_wp2_with (go_at_call 81; refine (HC.out _ (by first | exact HB0.out | exact arena_Same.bd HB0.out _)).mono ?_; rintro e w1 ⟨rfl, hb1⟩; rw [HS.out])
          go_roundg (gk - 1)
          case measure => omega
          case rel => exact ⟨i + 1, by first | rfl | go_num, by omega, by omega, HF2, Lib.hid (HB.out.trans (((arena_Same.bd HB0.out 0).trans (hb1.mono (arena_Same.bd HB0.out 0).size)).mono HB.out.size))⟩
        · have HS := Lib.hid (Bool.eq_false_iff.2 hs)
          rw [Bool.eq_false_iff.2 hs, Bool.false_and] at hf
          have HF2 := Lib.hid hf
          clear hf hs
          go_wp2_with (go_at_call 81; refine (HC.out _ (by first | exact HB0.out | exact arena_Same.bd HB0.out _)).mono ?_; rintro e w1 ⟨rfl, hb1⟩; rw [HS.out])
          go_ret
          exact ⟨by rw [← HF2.out]; rfl, HB.out.trans (((arena_Same.bd HB0.out 0).trans (hb1.mono (arena_Same.bd HB0.out 0).size)).mono HB.out.size)⟩
      · obtain rfl : i = l0.length := by omega
        have hf := HF.out
        rw [List.drop_length, List.drop_of_length_le (by rw [HL.out]; exact Nat.le_refl _)] at hf
        have HF2 := Lib.hid hf
        clear hf HF
        go_wp2
        go_ret
        exact ⟨by rw [← HF2.out]; simp [arena_Same.sl], HB.out⟩
  · rw [arena_Same.sl_len hl]
    have b0 : ((l0.length : Int) == (l1.length : Int)) = false := beq_eq_false_iff_ne.2 (by omega)
    have b1 : ((l0.length : Int) != (l1.length : Int)) = true := bne_iff_ne.2 (by omega)
    clear hl hr0 hr1 ih
    go_enter Try.func80, Try.ntmps80
    go_wp2
    go_ret
    exact ⟨rfl, Below.refl _ _⟩
set_option maxRecDepth 100000 in
set_option maxHeartbeats 4000000 in
theorem arena_Same.main : ∀ (d : Nat) (A0 : Option Addr) (c0 : Nat) (l0 : List S31) (A1 : Option Addr) (c1 : Nat) (l1 : List S31) (w : World), arena_Same.dl l0 ≤ d → Kd.C k31 w A0 l0.length l0 → Kd.C k31 w A1 l1.length l1 →
    Calls Try.prog 50 #[.slice A0 l0.length c0, .slice A1 l1.length c1] w fun e w' => e = .returned (.bool (arena_Same.sl l0 l1)) ∧ Below w.heap.size w w' := by
  intro d
  induction d with
  | zero =>
    intro A0 c0 l0 A1 c1 l1 w hd hr0 hr1
    have HE := Lib.hid (arena_Same.any A0 c0 l0 A1 c1 l1 w hr0 hr1 (fun i x y hx => absurd (arena_Same.dl_at hx) (by omega)))
    clear hr0 hr1
    go_enter Try.func50, Try.ntmps50
    go_wp2_with (go_at_call 80; refine HE.out.mono ?_; rintro e w1 ⟨rfl, hb1⟩)
    go_ret
    exact ⟨rfl, hb1⟩
  | succ n ih =>
    intro A0 c0 l0 A1 c1 l1 w hd hr0 hr1
    have HE := Lib.hid (arena_Same.any A0 c0 l0 A1 c1 l1 w hr0 hr1 (fun i x y hx A0 c0 A1 c1 w h0 h1 => ih A0 c0 x.f3 A1 c1 y.f3 w (by have := arena_Same.dl_at hx; omega) h0 h1))
    clear hr0 hr1 ih
    go_enter Try.func50, Try.ntmps50
    go_wp2_with (go_at_call 80; refine HE.out.mono ?_; rintro e w1 ⟨rfl, hb1⟩)
    go_ret
    exact ⟨rfl, hb1⟩
theorem arena_Same.calls (A0 : Option Addr) (c0 : Nat) (l0 : List S31) (A1 : Option Addr) (c1 : Nat) (l1 : List S31) (r : Bool) (w : World) (hr0 : Kd.C k31 w A0 l0.length l0) (_hc0 : l0.length ≤ c0) (hr1 : Kd.C k31 w A1 l1.length l1) (_hc1 : l1.length ≤ c1) (h : arena_Same.f l0 l1 = some r) :
    Calls Try.prog 50 #[.slice A0 l0.length c0, .slice A1 l1.length c1] w fun e w' => e = .returned (.bool r) ∧ Below w.heap.size w w' := by
  obtain rfl := Option.some.inj h
  exact arena_Same.main _ A0 c0 l0 A1 c1 l1 w (Nat.le_refl _) hr0 hr1

/-! ### decanterlaw12_ArenaSames: function 8 -/
def decanterlaw12_ArenaSames.j0 : Nat → List (S38) → List (S38) → Bool → Option (Bool)
  | 0, _, _, _ => none
  | k + 1, x0, x1, x20 => if x20 = true then ((decanterlaw12_speaks.f).bind fun t142 => (some t142)) else ((decanterlaw12_Of.f k x0).bind fun t143 => ((decanterlaw12_Of.f k x1).bind fun t146 => ((arena_Count.f k t143).bind fun bt149 => ((arena_Same.f t143 t146).bind fun t151 => ((decanterref12_Same.f k x0 x1).bind fun t152 => (if (t151 == t152) = true then ((arena_Same.f t143 t143).bind fun t153 => (if t153 = true then ((decanterref12_Many.f k x0).bind fun t154 => (if bt149.1 = t154 then ((decanterref12_Deep.f k x0).bind fun t155 => (some (bt149.2 == t155))) else (some false))) else (some false))) else (some false)))))))
def decanterlaw12_ArenaSames.f (k : Nat) (l0 : List (S38)) (l1 : List (S38)) : Option (Bool) := (decanterlaw12_speaks.f).bind fun t139 => (if t139 = true then ((decanterlaw12_few.f k l0).bind fun t140 => (if t140 = true then ((decanterlaw12_few.f k l1).bind fun t141 => (decanterlaw12_ArenaSames.j0 k l0 l1 (!t141))) else (decanterlaw12_ArenaSames.j0 k l0 l1 true))) else (decanterlaw12_ArenaSames.j0 k l0 l1 true))
theorem decanterlaw12_ArenaSames.mono_l : ∀ k, (∀ y0 y1 y2, LeO (decanterlaw12_ArenaSames.j0 k y0 y1 y2) (decanterlaw12_ArenaSames.j0 (k + 1) y0 y1 y2))
  | 0 => fun _ _ _ r h => by simp [decanterlaw12_ArenaSames.j0] at h
  | k + 1 => by
    have ih0 := decanterlaw12_ArenaSames.mono_l k
    · intro y0 y1 y2
      unfold decanterlaw12_ArenaSames.j0
      repeat' first
      | (with_reducible exact ih0 _ _ _)
      | (with_reducible exact arena_Count.mono _ _)
      | (with_reducible exact decanterlaw12_Of.mono _ _)
      | (with_reducible exact decanterlaw12_few.mono _ _)
      | (with_reducible exact decanterref12_Deep.mono _ _)
      | (with_reducible exact decanterref12_Many.mono _ _)
      | (with_reducible exact decanterref12_Same.mono _ _ _)
      | (with_reducible exact LeO.refl _)
      | (with_reducible exact LeO.none _)
      | (with_reducible refine LeO.ite ?_ ?_)
      | (with_reducible refine LeO.bind ?_ (fun _ => ?_))
      | exact ih0 _ _ _
      | exact arena_Count.mono _ _
      | exact decanterlaw12_Of.mono _ _
      | exact decanterlaw12_few.mono _ _
      | exact decanterref12_Deep.mono _ _
      | exact decanterref12_Many.mono _ _
      | exact decanterref12_Same.mono _ _ _
      | exact LeO.none _
      | refine LeO.ite ?_ ?_
      | refine LeO.bind ?_ (fun _ => ?_)
theorem decanterlaw12_ArenaSames.mono : ∀ a0 a1 k, LeO (decanterlaw12_ArenaSames.f k a0 a1) (decanterlaw12_ArenaSames.f (k + 1) a0 a1) := by
  intro a0 a1 k
  have ih0 := decanterlaw12_ArenaSames.mono_l k
  unfold decanterlaw12_ArenaSames.f
  repeat' first
      | (with_reducible exact ih0 _ _ _)
      | (with_reducible exact arena_Count.mono _ _)
      | (with_reducible exact decanterlaw12_Of.mono _ _)
      | (with_reducible exact decanterlaw12_few.mono _ _)
      | (with_reducible exact decanterref12_Deep.mono _ _)
      | (with_reducible exact decanterref12_Many.mono _ _)
      | (with_reducible exact decanterref12_Same.mono _ _ _)
      | (with_reducible exact LeO.refl _)
      | (with_reducible exact LeO.none _)
      | (with_reducible refine LeO.ite ?_ ?_)
      | (with_reducible refine LeO.bind ?_ (fun _ => ?_))
      | exact ih0 _ _ _
      | exact arena_Count.mono _ _
      | exact decanterlaw12_Of.mono _ _
      | exact decanterlaw12_few.mono _ _
      | exact decanterref12_Deep.mono _ _
      | exact decanterref12_Many.mono _ _
      | exact decanterref12_Same.mono _ _ _
      | exact LeO.none _
      | refine LeO.ite ?_ ?_
      | refine LeO.bind ?_ (fun _ => ?_)
set_option maxHeartbeats 8000000 in
set_option maxRecDepth 100000 in
theorem decanterlaw12_ArenaSames.calls (k : Nat) (A0 : Option Addr) (c0 : Nat) (l0 : List (S38)) (A1 : Option Addr) (c1 : Nat) (l1 : List (S38)) (r : Bool) (w : World) (hr0 : Kd.C k38 w A0 l0.length l0) (hc0 : l0.length ≤ c0) (hr1 : Kd.C k38 w A1 l1.length l1) (hc1 : l1.length ≤ c1) (h : decanterlaw12_ArenaSames.f k l0 l1 = some r) :
    Calls Try.prog 8 #[.slice A0 l0.length c0, .slice A1 l1.length c1] w fun e w' => e = .returned (.bool r) ∧ Below w.heap.size w w' := by
  have HR0 := Aside0.mk hr0
  have HC0 := Aside0.mk hc0
  clear hr0 hc0
  have HR1 := Aside0.mk hr1
  have HC1 := Aside0.mk hc1
  clear hr1 hc1
  have HB := Aside0.mk (Below.refl w.heap.size w)
  have H : ((decanterlaw12_speaks.f).bind fun t139 => (if t139 = true then ((decanterlaw12_few.f k l0).bind fun t140 => (if t140 = true then ((decanterlaw12_few.f k l1).bind fun t141 => (decanterlaw12_ArenaSames.j0 k l0 l1 (!t141))) else (decanterlaw12_ArenaSames.j0 k l0 l1 true))) else (decanterlaw12_ArenaSames.j0 k l0 l1 true))) = some r := h
  clear h
  have HC3 := Aside0.mk H
  clear H
  go_enter Try.func8, Try.ntmps8
  go_upto_region 1 with (fail)
  go_cut [20] (fun v20 wc => ∃ (kq : Nat) (x20_2 : Bool), v20 = .bool x20_2 ∧ Aside0 (decanterlaw12_ArenaSames.j0 kq l0 l1 x20_2 = some r) ∧ Aside0 (kq ≤ k) ∧ Aside0 (Below w.heap.size w wc))
  case first =>
    have H := HC3.out
    clear HC3
    replace H := Option.bind_eq_some_iff.mp H
    obtain ⟨t139, A40, H⟩ := H
    replace H : (if t139 = true then ((decanterlaw12_few.f k l0).bind fun t140 => (if t140 = true then ((decanterlaw12_few.f k l1).bind fun t141 => (decanterlaw12_ArenaSames.j0 k l0 l1 (!t141))) else (decanterlaw12_ArenaSames.j0 k l0 l1 true))) else (decanterlaw12_ArenaSames.j0 k l0 l1 true)) = some r := H
    have A4 := Aside0.mk A40
    clear A40
    by_cases c5 : t139 = true
    · subst c5
      have H1 : ((decanterlaw12_few.f k l0).bind fun t140 => (if t140 = true then ((decanterlaw12_few.f k l1).bind fun t141 => (decanterlaw12_ArenaSames.j0 k l0 l1 (!t141))) else (decanterlaw12_ArenaSames.j0 k l0 l1 true))) = some r := by rw [if_pos rfl] at H; exact H
      clear H
      have H := H1
      clear H1
      replace H := Option.bind_eq_some_iff.mp H
      obtain ⟨t140, A60, H⟩ := H
      replace H : (if t140 = true then ((decanterlaw12_few.f k l1).bind fun t141 => (decanterlaw12_ArenaSames.j0 k l0 l1 (!t141))) else (decanterlaw12_ArenaSames.j0 k l0 l1 true)) = some r := H
      have A6 := Aside0.mk A60
      clear A60
      by_cases c7 : t140 = true
      · subst c7
        have H1 : ((decanterlaw12_few.f k l1).bind fun t141 => (decanterlaw12_ArenaSames.j0 k l0 l1 (!t141))) = some r := by rw [if_pos rfl] at H; exact H
        clear H
        have H := H1
        clear H1
        replace H := Option.bind_eq_some_iff.mp H
        obtain ⟨t141, A80, H⟩ := H
        replace H : (decanterlaw12_ArenaSames.j0 k l0 l1 (!t141)) = some r := H
        have A8 := Aside0.mk A80
        clear A80
        have H' := Aside0.mk H
        clear H
        go_wp2_with (first | ((with_reducible refine gate_callee (f := 12) rfl ?_); refine goesL_ (some 9) rfl rfl Try.func12 (by kernel_rfl) rfl #[] rfl (by (try simp only [List.map_toArray, List.map_cons, List.map_nil]); first | done | rfl | (simp only [List.length_drop, List.length_take]; rfl)) ?_; (with_reducible refine (decanterlaw12_speaks.calls  true _ A4.out).mono ?_); rintro e w9 ⟨rfl, hb⟩; refine ⟨_, rfl, ?_⟩; have n0_ := Aside0.mk (below_step (by repeat (first | (with_reducible first | exact HB.out | apply below_alloc | apply pw_below_drewN | apply below_drew1) | exact HB.out)) hb); clear HB; have HB := n0_; clear n0_; (try clear hb); (try clear hb2); (try clear hk); (try clear hi)) | (go_at_call 13; (with_reducible refine (decanterlaw12_few.calls k _ _ l0 true _ ?side1 ?side2 A6.out).mono ?_); (case side1 => repeat (first | exact (Kd.C_below HR0.out HB.out) | (with_reducible refine Kd.C_alloc ?_ _) | (with_reducible refine Kd.C_drewN ?_ _) | (with_reducible refine Kd.C_drew ?_))); (case side2 => exact HC0.out); rintro e w' ⟨rfl, ⟨nd, rfl⟩⟩) | (go_at_call 13; (with_reducible refine (decanterlaw12_few.calls k _ _ l1 t141 _ ?side1 ?side2 A8.out).mono ?_); (case side1 => repeat (first | exact (Kd.C_below HR1.out (by repeat (first | (with_reducible first | exact HB.out | apply below_alloc | apply pw_below_drewN | apply below_drew1) | exact HB.out))) | (with_reducible refine Kd.C_alloc ?_ _) | (with_reducible refine Kd.C_drewN ?_ _) | (with_reducible refine Kd.C_drew ?_))); (case side2 => exact HC1.out); rintro e w' ⟨rfl, ⟨nd, rfl⟩⟩))
        go_meet
        case rel => exact ⟨_, (!t141), (by first | rfl | (simp; done) | (simp [*]; done)), H', ⟨by first | omega | exact Nat.le_refl _⟩, ⟨by repeat (first | (with_reducible first | exact HB.out | apply below_alloc | apply pw_below_drewN | apply below_drew1) | exact HB.out)⟩⟩
      · replace c7 := Bool.eq_false_iff.mpr c7
        subst c7
        have H1 : (decanterlaw12_ArenaSames.j0 k l0 l1 true) = some r := by rw [if_neg (show ¬ (false = true) by decide)] at H; exact H
        clear H
        have H := H1
        clear H1
        have H' := Aside0.mk H
        clear H
        go_wp2_with (first | ((with_reducible refine gate_callee (f := 12) rfl ?_); refine goesL_ (some 9) rfl rfl Try.func12 (by kernel_rfl) rfl #[] rfl (by (try simp only [List.map_toArray, List.map_cons, List.map_nil]); first | done | rfl | (simp only [List.length_drop, List.length_take]; rfl)) ?_; (with_reducible refine (decanterlaw12_speaks.calls  true _ A4.out).mono ?_); rintro e w10 ⟨rfl, hb⟩; refine ⟨_, rfl, ?_⟩; have n0_ := Aside0.mk (below_step (by repeat (first | (with_reducible first | exact HB.out | apply below_alloc | apply pw_below_drewN | apply below_drew1) | exact HB.out)) hb); clear HB; have HB := n0_; clear n0_; (try clear hb); (try clear hb2); (try clear hk); (try clear hi)) | (go_at_call 13; (with_reducible refine (decanterlaw12_few.calls k _ _ l0 false _ ?side1 ?side2 A6.out).mono ?_); (case side1 => repeat (first | exact (Kd.C_below HR0.out HB.out) | (with_reducible refine Kd.C_alloc ?_ _) | (with_reducible refine Kd.C_drewN ?_ _) | (with_reducible refine Kd.C_drew ?_))); (case side2 => exact HC0.out); rintro e w' ⟨rfl, ⟨nd, rfl⟩⟩))
        go_meet
        case rel => exact ⟨_, (true), (by first | rfl | (simp; done) | (simp [*]; done)), H', ⟨by first | omega | exact Nat.le_refl _⟩, ⟨by repeat (first | (with_reducible first | exact HB.out | apply below_alloc | apply pw_below_drewN | apply below_drew1) | exact HB.out)⟩⟩
    · replace c5 := Bool.eq_false_iff.mpr c5
      subst c5
      have H1 : (decanterlaw12_ArenaSames.j0 k l0 l1 true) = some r := by rw [if_neg (show ¬ (false = true) by decide)] at H; exact H
      clear H
      have H := H1
      clear H1
      have H' := Aside0.mk H
      clear H
      go_wp2_with (first | ((with_reducible refine gate_callee (f := 12) rfl ?_); refine goesL_ (some 9) rfl rfl Try.func12 (by kernel_rfl) rfl #[] rfl (by (try simp only [List.map_toArray, List.map_cons, List.map_nil]); first | done | rfl | (simp only [List.length_drop, List.length_take]; rfl)) ?_; (with_reducible refine (decanterlaw12_speaks.calls  false _ A4.out).mono ?_); rintro e w11 ⟨rfl, hb⟩; refine ⟨_, rfl, ?_⟩; have n0_ := Aside0.mk (below_step (by repeat (first | (with_reducible first | exact HB.out | apply below_alloc | apply pw_below_drewN | apply below_drew1) | exact HB.out)) hb); clear HB; have HB := n0_; clear n0_; (try clear hb); (try clear hb2); (try clear hk); (try clear hi)))
      go_meet
      case rel => exact ⟨_, (true), (by first | rfl | (simp; done) | (simp [*]; done)), H', ⟨by first | omega | exact Nat.le_refl _⟩, ⟨by repeat (first | (with_reducible first | exact HB.out | apply below_alloc | apply pw_below_drewN | apply below_drew1) | exact HB.out)⟩⟩
  case rest =>
    clear HC3
    try clear c1
    try clear p2
    try clear c5
    try clear c7
    try clear c8
    obtain ⟨kq, x20_2, rfl, HA, HJ2, HB⟩ := hcut
    cases kq with
    | zero => exact absurd HA.out (by simp [decanterlaw12_ArenaSames.j0])
    | succ kj2 =>
      have H := HA.out
      clear HA
      simp only [decanterlaw12_ArenaSames.j0] at H
      by_cases c12 : x20_2 = true
      · subst c12
        have H1 : ((decanterlaw12_speaks.f).bind fun t142 => (some t142)) = some r := by rw [if_pos rfl] at H; exact H
        clear H
        have H := H1
        clear H1
        replace H := Option.bind_eq_some_iff.mp H
        obtain ⟨t142, A130, H⟩ := H
        replace H : (some t142) = some r := H
        have A13 := Aside0.mk A130
        clear A130
        obtain rfl := Option.some.inj H
        go_wp2_with (first | ((with_reducible refine gate_callee (f := 12) rfl ?_); refine goesL_ (some 21) rfl rfl Try.func12 (by kernel_rfl) rfl #[] rfl (by (try simp only [List.map_toArray, List.map_cons, List.map_nil]); first | done | rfl | (simp only [List.length_drop, List.length_take]; rfl)) ?_; (with_reducible refine (decanterlaw12_speaks.calls  t142 _ A13.out).mono ?_); rintro e w14 ⟨rfl, hb⟩; refine ⟨_, rfl, ?_⟩; have n0_ := Aside0.mk (below_step (by repeat (first | (with_reducible first | exact HB.out | apply below_alloc | apply pw_below_drewN | apply below_drew1) | exact HB.out)) hb); clear HB; have HB := n0_; clear n0_; (try clear hb); (try clear hb2); (try clear hk); (try clear hi)))
        go_ret
        exact ⟨by first | rfl | (simp [errW_none, errW_some] <;> rfl) | (simp [*, errW_none, errW_some] <;> rfl), by repeat (first | (with_reducible first | exact HB.out | apply below_alloc | apply pw_below_drewN | apply below_drew1) | exact HB.out)⟩
      · replace c12 := Bool.eq_false_iff.mpr c12
        subst c12
        have H1 : ((decanterlaw12_Of.f kj2 l0).bind fun t143 => ((decanterlaw12_Of.f kj2 l1).bind fun t146 => ((arena_Count.f kj2 t143).bind fun bt149 => ((arena_Same.f t143 t146).bind fun t151 => ((decanterref12_Same.f kj2 l0 l1).bind fun t152 => (if (t151 == t152) = true then ((arena_Same.f t143 t143).bind fun t153 => (if t153 = true then ((decanterref12_Many.f kj2 l0).bind fun t154 => (if bt149.1 = t154 then ((decanterref12_Deep.f kj2 l0).bind fun t155 => (some (bt149.2 == t155))) else (some false))) else (some false))) else (some false))))))) = some r := by rw [if_neg (show ¬ (false = true) by decide)] at H; exact H
        clear H
        have H := H1
        clear H1
        replace H := Option.bind_eq_some_iff.mp H
        obtain ⟨t143, A150, H⟩ := H
        replace H : ((decanterlaw12_Of.f kj2 l1).bind fun t146 => ((arena_Count.f kj2 t143).bind fun bt149 => ((arena_Same.f t143 t146).bind fun t151 => ((decanterref12_Same.f kj2 l0 l1).bind fun t152 => (if (t151 == t152) = true then ((arena_Same.f t143 t143).bind fun t153 => (if t153 = true then ((decanterref12_Many.f kj2 l0).bind fun t154 => (if bt149.1 = t154 then ((decanterref12_Deep.f kj2 l0).bind fun t155 => (some (bt149.2 == t155))) else (some false))) else (some false))) else (some false)))))) = some r := H
        have A15 := Aside0.mk A150
        clear A150
        replace H := Option.bind_eq_some_iff.mp H
        obtain ⟨t146, A160, H⟩ := H
        replace H : ((arena_Count.f kj2 t143).bind fun bt149 => ((arena_Same.f t143 t146).bind fun t151 => ((decanterref12_Same.f kj2 l0 l1).bind fun t152 => (if (t151 == t152) = true then ((arena_Same.f t143 t143).bind fun t153 => (if t153 = true then ((decanterref12_Many.f kj2 l0).bind fun t154 => (if bt149.1 = t154 then ((decanterref12_Deep.f kj2 l0).bind fun t155 => (some (bt149.2 == t155))) else (some false))) else (some false))) else (some false))))) = some r := H
        have A16 := Aside0.mk A160
        clear A160
        replace H := Option.bind_eq_some_iff.mp H
        obtain ⟨⟨t149, t150⟩, A170, H⟩ := H
        replace H : ((arena_Same.f t143 t146).bind fun t151 => ((decanterref12_Same.f kj2 l0 l1).bind fun t152 => (if (t151 == t152) = true then ((arena_Same.f t143 t143).bind fun t153 => (if t153 = true then ((decanterref12_Many.f kj2 l0).bind fun t154 => (if t149 = t154 then ((decanterref12_Deep.f kj2 l0).bind fun t155 => (some (t150 == t155))) else (some false))) else (some false))) else (some false)))) = some r := H
        have A17 := Aside0.mk A170
        clear A170
        replace H := Option.bind_eq_some_iff.mp H
        obtain ⟨t151, A180, H⟩ := H
        replace H : ((decanterref12_Same.f kj2 l0 l1).bind fun t152 => (if (t151 == t152) = true then ((arena_Same.f t143 t143).bind fun t153 => (if t153 = true then ((decanterref12_Many.f kj2 l0).bind fun t154 => (if t149 = t154 then ((decanterref12_Deep.f kj2 l0).bind fun t155 => (some (t150 == t155))) else (some false))) else (some false))) else (some false))) = some r := H
        have A18 := Aside0.mk A180
        clear A180
        replace H := Option.bind_eq_some_iff.mp H
        obtain ⟨t152, A190, H⟩ := H
        replace H : (if (t151 == t152) = true then ((arena_Same.f t143 t143).bind fun t153 => (if t153 = true then ((decanterref12_Many.f kj2 l0).bind fun t154 => (if t149 = t154 then ((decanterref12_Deep.f kj2 l0).bind fun t155 => (some (t150 == t155))) else (some false))) else (some false))) else (some false)) = some r := H
        have A19 := Aside0.mk A190
        clear A190
        by_cases c20 : (t151 == t152) = true
        · rw [if_pos c20] at H
          have c20b0 : (t151 == t152) = true := c20
          (try (have c20b1 : decide (t151 = t152) = true := by simpa using c20))
          (try (have c20b2 : (t151 == t152) = true := by simpa using c20))
          clear c20
          replace H := Option.bind_eq_some_iff.mp H
          obtain ⟨t153, A210, H⟩ := H
          replace H : (if t153 = true then ((decanterref12_Many.f kj2 l0).bind fun t154 => (if t149 = t154 then ((decanterref12_Deep.f kj2 l0).bind fun t155 => (some (t150 == t155))) else (some false))) else (some false)) = some r := H
          have A21 := Aside0.mk A210
          clear A210
          by_cases c22 : t153 = true
          · subst c22
            have H1 : ((decanterref12_Many.f kj2 l0).bind fun t154 => (if t149 = t154 then ((decanterref12_Deep.f kj2 l0).bind fun t155 => (some (t150 == t155))) else (some false))) = some r := by rw [if_pos rfl] at H; exact H
            clear H
            have H := H1
            clear H1
            replace H := Option.bind_eq_some_iff.mp H
            obtain ⟨t154, A230, H⟩ := H
            replace H : (if t149 = t154 then ((decanterref12_Deep.f kj2 l0).bind fun t155 => (some (t150 == t155))) else (some false)) = some r := H
            have A23 := Aside0.mk A230
            clear A230
            by_cases c24 : t149 = t154
            · rw [if_pos c24] at H
              have c24b0 : (t149 == t154) = true := beq_iff_eq.mpr c24
              have c24b1 : (t149 != t154) = false := bne_eq_false_iff_eq.mpr c24
              clear c24
              replace H := Option.bind_eq_some_iff.mp H
              obtain ⟨t155, A250, H⟩ := H
              replace H : (some (t150 == t155)) = some r := H
              have A25 := Aside0.mk A250
              clear A250
              obtain rfl := Option.some.inj H
              go_wp2_with (first | ((with_reducible refine gate_callee (f := 14) rfl ?_); refine goesL_ (some 23) rfl rfl Try.func14 (by kernel_rfl) rfl #[.slice A0 l0.length c0] rfl (by (try simp only [List.map_toArray, List.map_cons, List.map_nil]); first | done | rfl | (simp only [List.length_drop, List.length_take]; rfl)) ?_; (with_reducible refine (decanterlaw12_Of.calls kj2 _ _ l0 t143 _ ?side1 ?side2 A15.out).mono ?_); (case side1 => repeat (first | exact (Kd.C_below HR0.out HB.out) | (with_reducible refine Kd.C_alloc ?_ _) | (with_reducible refine Kd.C_drewN ?_ _) | (with_reducible refine Kd.C_drew ?_))); (case side2 => exact HC0.out); rintro e w26 ⟨v144, rfl, ho0, hb⟩; refine ⟨_, rfl, ?_⟩; have n0_ := Aside0.mk (Kd.R_lower ho0 (below_size (by repeat (first | (with_reducible first | exact HB.out | apply below_alloc | apply pw_below_drewN | apply below_drew1) | exact HB.out)))); have n1_ := Aside0.mk (below_step (by repeat (first | (with_reducible first | exact HB.out | apply below_alloc | apply pw_below_drewN | apply below_drew1) | exact HB.out)) hb); clear HB; have HO145 := n0_; have HB := n1_; clear n0_ n1_; (try clear hb); (try clear hb2); (try clear hk); (try clear hi); (try clear ho0)) | ((with_reducible refine gate_callee (f := 14) rfl ?_); refine goesL_ (some 25) rfl rfl Try.func14 (by kernel_rfl) rfl #[.slice A1 l1.length c1] rfl (by (try simp only [List.map_toArray, List.map_cons, List.map_nil]); first | done | rfl | (simp only [List.length_drop, List.length_take]; rfl)) ?_; (with_reducible refine (decanterlaw12_Of.calls kj2 _ _ l1 t146 _ ?side1 ?side2 A16.out).mono ?_); (case side1 => repeat (first | exact (Kd.C_below HR1.out HB.out) | (with_reducible refine Kd.C_alloc ?_ _) | (with_reducible refine Kd.C_drewN ?_ _) | (with_reducible refine Kd.C_drew ?_))); (case side2 => exact HC1.out); rintro e w27 ⟨v147, rfl, ho0, hb⟩; refine ⟨_, rfl, ?_⟩; have n0_ := Aside0.mk (Kd.R_elder' (by (with_reducible repeat (first | apply Kd.R_alloc | apply Kd.R_drewN | apply Kd.R_drew)); exact HO145.out) (Kd.R_base ho0) hb); have n1_ := Aside0.mk (Kd.R_lower (Kd.R_new' ho0 (Kd.R_lt (by (with_reducible repeat (first | apply Kd.R_alloc | apply Kd.R_drewN | apply Kd.R_drew)); exact HO145.out))) (below_size (by repeat (first | (with_reducible first | exact HB.out | apply below_alloc | apply pw_below_drewN | apply below_drew1) | exact HB.out)))); have n2_ := Aside0.mk (below_step (by repeat (first | (with_reducible first | exact HB.out | apply below_alloc | apply pw_below_drewN | apply below_drew1) | exact HB.out)) hb); clear HO145; clear HB; have HO145 := n0_; have HO148 := n1_; have HB := n2_; clear n0_ n1_ n2_; (try clear hb); (try clear hb2); (try clear hk); (try clear hi); (try clear ho0); obtain ⟨Ao28, co28, eo28⟩ := Kd.R_slice HO145.out; subst eo28) | ((with_reducible refine gate_callee (f := 15) rfl ?_); refine goesL_ (some 28) rfl rfl Try.func15 (by kernel_rfl) rfl #[.slice Ao28 t143.length co28] rfl (by (try simp only [List.map_toArray, List.map_cons, List.map_nil]); first | done | rfl | (simp only [List.length_drop, List.length_take]; rfl)) ?_; (with_reducible refine (arena_Count.calls kj2 _ _ t143 t149 t150 _ ?side1 ?side2 A17.out).mono ?_); (case side1 => repeat (first | exact (Kd.R_reads' HO145.out).2.2 | (with_reducible refine Kd.C_alloc ?_ _) | (with_reducible refine Kd.C_drewN ?_ _) | (with_reducible refine Kd.C_drew ?_))); (case side2 => exact (Kd.R_reads' HO145.out).2.1); rintro e w29 ⟨rfl, hb⟩; refine ⟨_, rfl, ?_⟩; have n0_ := Aside0.mk (Kd.R_below (by (with_reducible repeat (first | apply Kd.R_alloc | apply Kd.R_drewN | apply Kd.R_drew)); exact HO145.out) hb); have n1_ := Aside0.mk (Kd.R_below (by (with_reducible repeat (first | apply Kd.R_alloc | apply Kd.R_drewN | apply Kd.R_drew)); exact HO148.out) hb); have n2_ := Aside0.mk (below_step (by repeat (first | (with_reducible first | exact HB.out | apply below_alloc | apply pw_below_drewN | apply below_drew1) | exact HB.out)) hb); clear HO145; clear HO148; clear HB; have HO145 := n0_; have HO148 := n1_; have HB := n2_; clear n0_ n1_ n2_; (try clear hb); (try clear hb2); (try clear hk); (try clear hi); obtain ⟨Ao30, co30, eo30⟩ := Kd.R_slice HO148.out; subst eo30) | ((with_reducible refine gate_callee (f := 50) rfl ?_); refine goesL_ (some 33) rfl rfl Try.func50 (by kernel_rfl) rfl #[.slice Ao28 t143.length co28, .slice Ao30 t146.length co30] rfl (by (try simp only [List.map_toArray, List.map_cons, List.map_nil]); first | done | rfl | (simp only [List.length_drop, List.length_take]; rfl)) ?_; (with_reducible refine (arena_Same.calls _ _ t143 _ _ t146 t151 _ ?side1 ?side2 ?side3 ?side4 A18.out).mono ?_); (case side1 => repeat (first | exact (Kd.R_reads' HO145.out).2.2 | (with_reducible refine Kd.C_alloc ?_ _) | (with_reducible refine Kd.C_drewN ?_ _) | (with_reducible refine Kd.C_drew ?_))); (case side2 => exact (Kd.R_reads' HO145.out).2.1); (case side3 => repeat (first | exact (Kd.R_reads' HO148.out).2.2 | (with_reducible refine Kd.C_alloc ?_ _) | (with_reducible refine Kd.C_drewN ?_ _) | (with_reducible refine Kd.C_drew ?_))); (case side4 => exact (Kd.R_reads' HO148.out).2.1); rintro e w31 ⟨rfl, hb⟩; refine ⟨_, rfl, ?_⟩; have n0_ := Aside0.mk (Kd.R_below (by (with_reducible repeat (first | apply Kd.R_alloc | apply Kd.R_drewN | apply Kd.R_drew)); exact HO145.out) hb); have n1_ := Aside0.mk (Kd.R_below (by (with_reducible repeat (first | apply Kd.R_alloc | apply Kd.R_drewN | apply Kd.R_drew)); exact HO148.out) hb); have n2_ := Aside0.mk (below_step (by repeat (first | (with_reducible first | exact HB.out | apply below_alloc | apply pw_below_drewN | apply below_drew1) | exact HB.out)) hb); clear HO145; clear HO148; clear HB; have HO145 := n0_; have HO148 := n1_; have HB := n2_; clear n0_ n1_ n2_; (try clear hb); (try clear hb2); (try clear hk); (try clear hi)) | ((with_reducible refine gate_callee (f := 23) rfl ?_); refine goesL_ (some 36) rfl rfl Try.func23 (by kernel_rfl) rfl #[.slice A0 l0.length c0, .slice A1 l1.length c1] rfl (by (try simp only [List.map_toArray, List.map_cons, List.map_nil]); first | done | rfl | (simp only [List.length_drop, List.length_take]; rfl)) ?_; (with_reducible refine (decanterref12_Same.calls kj2 _ _ l0 _ _ l1 t152 _ ?side1 ?side2 ?side3 ?side4 A19.out).mono ?_); (case side1 => repeat (first | exact (Kd.C_below HR0.out HB.out) | (with_reducible refine Kd.C_alloc ?_ _) | (with_reducible refine Kd.C_drewN ?_ _) | (with_reducible refine Kd.C_drew ?_))); (case side2 => exact HC0.out); (case side3 => repeat (first | exact (Kd.C_below HR1.out HB.out) | (with_reducible refine Kd.C_alloc ?_ _) | (with_reducible refine Kd.C_drewN ?_ _) | (with_reducible refine Kd.C_drew ?_))); (case side4 => exact HC1.out); rintro e w32 ⟨rfl, hb⟩; refine ⟨_, rfl, ?_⟩; have n0_ := Aside0.mk (Kd.R_below (by (with_reducible repeat (first | apply Kd.R_alloc | apply Kd.R_drewN | apply Kd.R_drew)); exact HO145.out) hb); have n1_ := Aside0.mk (Kd.R_below (by (with_reducible repeat (first | apply Kd.R_alloc | apply Kd.R_drewN | apply Kd.R_drew)); exact HO148.out) hb); have n2_ := Aside0.mk (below_step (by repeat (first | (with_reducible first | exact HB.out | apply below_alloc | apply pw_below_drewN | apply below_drew1) | exact HB.out)) hb); clear HO145; clear HO148; clear HB; have HO145 := n0_; have HO148 := n1_; have HB := n2_; clear n0_ n1_ n2_; (try clear hb); (try clear hb2); (try clear hk); (try clear hi)) | (go_at_call 50; (with_reducible refine (arena_Same.calls _ _ t143 _ _ t143 true _ ?side1 ?side2 ?side3 ?side4 A21.out).mono ?_); (case side1 => repeat (first | exact (Kd.R_reads' HO145.out).2.2 | (with_reducible refine Kd.C_alloc ?_ _) | (with_reducible refine Kd.C_drewN ?_ _) | (with_reducible refine Kd.C_drew ?_))); (case side2 => exact (Kd.R_reads' HO145.out).2.1); (case side3 => repeat (first | exact (Kd.R_reads' HO145.out).2.2 | (with_reducible refine Kd.C_alloc ?_ _) | (with_reducible refine Kd.C_drewN ?_ _) | (with_reducible refine Kd.C_drew ?_))); (case side4 => exact (Kd.R_reads' HO145.out).2.1); rintro e w33 ⟨rfl, hb⟩; have n0_ := Aside0.mk (Kd.R_below (by (with_reducible repeat (first | apply Kd.R_alloc | apply Kd.R_drewN | apply Kd.R_drew)); exact HO145.out) hb); have n1_ := Aside0.mk (Kd.R_below (by (with_reducible repeat (first | apply Kd.R_alloc | apply Kd.R_drewN | apply Kd.R_drew)); exact HO148.out) hb); have n2_ := Aside0.mk (below_step (by repeat (first | (with_reducible first | exact HB.out | apply below_alloc | apply pw_below_drewN | apply below_drew1) | exact HB.out)) hb); clear HO145; clear HO148; clear HB; have HO145 := n0_; have HO148 := n1_; have HB := n2_; clear n0_ n1_ n2_; (try clear hb); (try clear hb2); (try clear hk); (try clear hi)) | (go_at_call 51; (with_reducible refine (decanterref12_Many.calls kj2 _ _ l0 t154 _ ?side1 ?side2 A23.out).mono ?_); (case side1 => repeat (first | exact (Kd.C_below HR0.out HB.out) | (with_reducible refine Kd.C_alloc ?_ _) | (with_reducible refine Kd.C_drewN ?_ _) | (with_reducible refine Kd.C_drew ?_))); (case side2 => exact HC0.out); rintro e w' ⟨rfl, ⟨nd, rfl⟩⟩) | (go_at_call 52; (with_reducible refine (decanterref12_Deep.calls kj2 _ _ l0 t155 _ ?side1 ?side2 A25.out).mono ?_); (case side1 => repeat (first | exact (Kd.C_below HR0.out (by repeat (first | (with_reducible first | exact HB.out | apply below_alloc | apply pw_below_drewN | apply below_drew1) | exact HB.out))) | (with_reducible refine Kd.C_alloc ?_ _) | (with_reducible refine Kd.C_drewN ?_ _) | (with_reducible refine Kd.C_drew ?_))); (case side2 => exact HC0.out); rintro e w' ⟨rfl, ⟨nd, rfl⟩⟩))
              go_ret
              exact ⟨by first | rfl | (simp [errW_none, errW_some] <;> rfl) | (simp [*, errW_none, errW_some] <;> rfl), by repeat (first | (with_reducible first | exact HB.out | apply below_alloc | apply pw_below_drewN | apply below_drew1) | exact HB.out)⟩
            · rw [if_neg c24] at H
              have c24b0 : (t149 == t154) = false := beq_eq_false_iff_ne.mpr c24
              have c24b1 : (t149 != t154) = true := bne_iff_ne.mpr c24
              obtain rfl := Option.some.inj H
              go_wp2_with (first | ((with_reducible refine gate_callee (f := 14) rfl ?_); refine goesL_ (some 23) rfl rfl Try.func14 (by kernel_rfl) rfl #[.slice A0 l0.length c0] rfl (by (try simp only [List.map_toArray, List.map_cons, List.map_nil]); first | done | rfl | (simp only [List.length_drop, List.length_take]; rfl)) ?_; (with_reducible refine (decanterlaw12_Of.calls kj2 _ _ l0 t143 _ ?side1 ?side2 A15.out).mono ?_); (case side1 => repeat (first | exact (Kd.C_below HR0.out HB.out) | (with_reducible refine Kd.C_alloc ?_ _) | (with_reducible refine Kd.C_drewN ?_ _) | (with_reducible refine Kd.C_drew ?_))); (case side2 => exact HC0.out); rintro e w34 ⟨v144, rfl, ho0, hb⟩; refine ⟨_, rfl, ?_⟩; have n0_ := Aside0.mk (Kd.R_lower ho0 (below_size (by repeat (first | (with_reducible first | exact HB.out | apply below_alloc | apply pw_below_drewN | apply below_drew1) | exact HB.out)))); have n1_ := Aside0.mk (below_step (by repeat (first | (with_reducible first | exact HB.out | apply below_alloc | apply pw_below_drewN | apply below_drew1) | exact HB.out)) hb); clear HB; have HO145 := n0_; have HB := n1_; clear n0_ n1_; (try clear hb); (try clear hb2); (try clear hk); (try clear hi); (try clear ho0)) | ((with_reducible refine gate_callee (f := 14) rfl ?_); refine goesL_ (some 25) rfl rfl Try.func14 (by kernel_rfl) rfl #[.slice A1 l1.length c1] rfl (by (try simp only [List.map_toArray, List.map_cons, List.map_nil]); first | done | rfl | (simp only [List.length_drop, List.length_take]; rfl)) ?_; (with_reducible refine (decanterlaw12_Of.calls kj2 _ _ l1 t146 _ ?side1 ?side2 A16.out).mono ?_); (case side1 => repeat (first | exact (Kd.C_below HR1.out HB.out) | (with_reducible refine Kd.C_alloc ?_ _) | (with_reducible refine Kd.C_drewN ?_ _) | (with_reducible refine Kd.C_drew ?_))); (case side2 => exact HC1.out); rintro e w35 ⟨v147, rfl, ho0, hb⟩; refine ⟨_, rfl, ?_⟩; have n0_ := Aside0.mk (Kd.R_elder' (by (with_reducible repeat (first | apply Kd.R_alloc | apply Kd.R_drewN | apply Kd.R_drew)); exact HO145.out) (Kd.R_base ho0) hb); have n1_ := Aside0.mk (Kd.R_lower (Kd.R_new' ho0 (Kd.R_lt (by (with_reducible repeat (first | apply Kd.R_alloc | apply Kd.R_drewN | apply Kd.R_drew)); exact HO145.out))) (below_size (by repeat (first | (with_reducible first | exact HB.out | apply below_alloc | apply pw_below_drewN | apply below_drew1) | exact HB.out)))); have n2_ := Aside0.mk (below_step (by repeat (first | (with_reducible first | exact HB.out | apply below_alloc | apply pw_below_drewN | apply below_drew1) | exact HB.out)) hb); clear HO145; clear HB; have HO145 := n0_; have HO148 := n1_; have HB := n2_; clear n0_ n1_ n2_; (try clear hb); (try clear hb2); (try clear hk); (try clear hi); (try clear ho0); obtain ⟨Ao36, co36, eo36⟩ := Kd.R_slice HO145.out; subst eo36) | ((with_reducible refine gate_callee (f := 15) rfl ?_); refine goesL_ (some 28) rfl rfl Try.func15 (by kernel_rfl) rfl #[.slice Ao36 t143.length co36] rfl (by (try simp only [List.map_toArray, List.map_cons, List.map_nil]); first | done | rfl | (simp only [List.length_drop, List.length_take]; rfl)) ?_; (with_reducible refine (arena_Count.calls kj2 _ _ t143 t149 t150 _ ?side1 ?side2 A17.out).mono ?_); (case side1 => repeat (first | exact (Kd.R_reads' HO145.out).2.2 | (with_reducible refine Kd.C_alloc ?_ _) | (with_reducible refine Kd.C_drewN ?_ _) | (with_reducible refine Kd.C_drew ?_))); (case side2 => exact (Kd.R_reads' HO145.out).2.1); rintro e w37 ⟨rfl, hb⟩; refine ⟨_, rfl, ?_⟩; have n0_ := Aside0.mk (Kd.R_below (by (with_reducible repeat (first | apply Kd.R_alloc | apply Kd.R_drewN | apply Kd.R_drew)); exact HO145.out) hb); have n1_ := Aside0.mk (Kd.R_below (by (with_reducible repeat (first | apply Kd.R_alloc | apply Kd.R_drewN | apply Kd.R_drew)); exact HO148.out) hb); have n2_ := Aside0.mk (below_step (by repeat (first | (with_reducible first | exact HB.out | apply below_alloc | apply pw_below_drewN | apply below_drew1) | exact HB.out)) hb); clear HO145; clear HO148; clear HB; have HO145 := n0_; have HO148 := n1_; have HB := n2_; clear n0_ n1_ n2_; (try clear hb); (try clear hb2); (try clear hk); (try clear hi); obtain ⟨Ao38, co38, eo38⟩ := Kd.R_slice HO148.out; subst eo38) | ((with_reducible refine gate_callee (f := 50) rfl ?_); refine goesL_ (some 33) rfl rfl Try.func50 (by kernel_rfl) rfl #[.slice Ao36 t143.length co36, .slice Ao38 t146.length co38] rfl (by (try simp only [List.map_toArray, List.map_cons, List.map_nil]); first | done | rfl | (simp only [List.length_drop, List.length_take]; rfl)) ?_; (with_reducible refine (arena_Same.calls _ _ t143 _ _ t146 t151 _ ?side1 ?side2 ?side3 ?side4 A18.out).mono ?_); (case side1 => repeat (first | exact (Kd.R_reads' HO145.out).2.2 | (with_reducible refine Kd.C_alloc ?_ _) | (with_reducible refine Kd.C_drewN ?_ _) | (with_reducible refine Kd.C_drew ?_))); (case side2 => exact (Kd.R_reads' HO145.out).2.1); (case side3 => repeat (first | exact (Kd.R_reads' HO148.out).2.2 | (with_reducible refine Kd.C_alloc ?_ _) | (with_reducible refine Kd.C_drewN ?_ _) | (with_reducible refine Kd.C_drew ?_))); (case side4 => exact (Kd.R_reads' HO148.out).2.1); rintro e w39 ⟨rfl, hb⟩; refine ⟨_, rfl, ?_⟩; have n0_ := Aside0.mk (Kd.R_below (by (with_reducible repeat (first | apply Kd.R_alloc | apply Kd.R_drewN | apply Kd.R_drew)); exact HO145.out) hb); have n1_ := Aside0.mk (Kd.R_below (by (with_reducible repeat (first | apply Kd.R_alloc | apply Kd.R_drewN | apply Kd.R_drew)); exact HO148.out) hb); have n2_ := Aside0.mk (below_step (by repeat (first | (with_reducible first | exact HB.out | apply below_alloc | apply pw_below_drewN | apply below_drew1) | exact HB.out)) hb); clear HO145; clear HO148; clear HB; have HO145 := n0_; have HO148 := n1_; have HB := n2_; clear n0_ n1_ n2_; (try clear hb); (try clear hb2); (try clear hk); (try clear hi)) | ((with_reducible refine gate_callee (f := 23) rfl ?_); refine goesL_ (some 36) rfl rfl Try.func23 (by kernel_rfl) rfl #[.slice A0 l0.length c0, .slice A1 l1.length c1] rfl (by (try simp only [List.map_toArray, List.map_cons, List.map_nil]); first | done | rfl | (simp only [List.length_drop, List.length_take]; rfl)) ?_; (with_reducible refine (decanterref12_Same.calls kj2 _ _ l0 _ _ l1 t152 _ ?side1 ?side2 ?side3 ?side4 A19.out).mono ?_); (case side1 => repeat (first | exact (Kd.C_below HR0.out HB.out) | (with_reducible refine Kd.C_alloc ?_ _) | (with_reducible refine Kd.C_drewN ?_ _) | (with_reducible refine Kd.C_drew ?_))); (case side2 => exact HC0.out); (case side3 => repeat (first | exact (Kd.C_below HR1.out HB.out) | (with_reducible refine Kd.C_alloc ?_ _) | (with_reducible refine Kd.C_drewN ?_ _) | (with_reducible refine Kd.C_drew ?_))); (case side4 => exact HC1.out); rintro e w40 ⟨rfl, hb⟩; refine ⟨_, rfl, ?_⟩; have n0_ := Aside0.mk (Kd.R_below (by (with_reducible repeat (first | apply Kd.R_alloc | apply Kd.R_drewN | apply Kd.R_drew)); exact HO145.out) hb); have n1_ := Aside0.mk (Kd.R_below (by (with_reducible repeat (first | apply Kd.R_alloc | apply Kd.R_drewN | apply Kd.R_drew)); exact HO148.out) hb); have n2_ := Aside0.mk (below_step (by repeat (first | (with_reducible first | exact HB.out | apply below_alloc | apply pw_below_drewN | apply below_drew1) | exact HB.out)) hb); clear HO145; clear HO148; clear HB; have HO145 := n0_; have HO148 := n1_; have HB := n2_; clear n0_ n1_ n2_; (try clear hb); (try clear hb2); (try clear hk); (try clear hi)) | (go_at_call 50; (with_reducible refine (arena_Same.calls _ _ t143 _ _ t143 true _ ?side1 ?side2 ?side3 ?side4 A21.out).mono ?_); (case side1 => repeat (first | exact (Kd.R_reads' HO145.out).2.2 | (with_reducible refine Kd.C_alloc ?_ _) | (with_reducible refine Kd.C_drewN ?_ _) | (with_reducible refine Kd.C_drew ?_))); (case side2 => exact (Kd.R_reads' HO145.out).2.1); (case side3 => repeat (first | exact (Kd.R_reads' HO145.out).2.2 | (with_reducible refine Kd.C_alloc ?_ _) | (with_reducible refine Kd.C_drewN ?_ _) | (with_reducible refine Kd.C_drew ?_))); (case side4 => exact (Kd.R_reads' HO145.out).2.1); rintro e w41 ⟨rfl, hb⟩; have n0_ := Aside0.mk (Kd.R_below (by (with_reducible repeat (first | apply Kd.R_alloc | apply Kd.R_drewN | apply Kd.R_drew)); exact HO145.out) hb); have n1_ := Aside0.mk (Kd.R_below (by (with_reducible repeat (first | apply Kd.R_alloc | apply Kd.R_drewN | apply Kd.R_drew)); exact HO148.out) hb); have n2_ := Aside0.mk (below_step (by repeat (first | (with_reducible first | exact HB.out | apply below_alloc | apply pw_below_drewN | apply below_drew1) | exact HB.out)) hb); clear HO145; clear HO148; clear HB; have HO145 := n0_; have HO148 := n1_; have HB := n2_; clear n0_ n1_ n2_; (try clear hb); (try clear hb2); (try clear hk); (try clear hi)) | (go_at_call 51; (with_reducible refine (decanterref12_Many.calls kj2 _ _ l0 t154 _ ?side1 ?side2 A23.out).mono ?_); (case side1 => repeat (first | exact (Kd.C_below HR0.out HB.out) | (with_reducible refine Kd.C_alloc ?_ _) | (with_reducible refine Kd.C_drewN ?_ _) | (with_reducible refine Kd.C_drew ?_))); (case side2 => exact HC0.out); rintro e w' ⟨rfl, ⟨nd, rfl⟩⟩))
              go_ret
              exact ⟨by first | rfl | (simp [errW_none, errW_some] <;> rfl) | (simp [*, errW_none, errW_some] <;> rfl), by repeat (first | (with_reducible first | exact HB.out | apply below_alloc | apply pw_below_drewN | apply below_drew1) | exact HB.out)⟩
          · replace c22 := Bool.eq_false_iff.mpr c22
            subst c22
            have H1 : (some false) = some r := by rw [if_neg (show ¬ (false = true) by decide)] at H; exact H
            clear H
            have H := H1
            clear H1
            obtain rfl := Option.some.inj H
            go_wp2_with (first | ((with_reducible refine gate_callee (f := 14) rfl ?_); refine goesL_ (some 23) rfl rfl Try.func14 (by kernel_rfl) rfl #[.slice A0 l0.length c0] rfl (by (try simp only [List.map_toArray, List.map_cons, List.map_nil]); first | done | rfl | (simp only [List.length_drop, List.length_take]; rfl)) ?_; (with_reducible refine (decanterlaw12_Of.calls kj2 _ _ l0 t143 _ ?side1 ?side2 A15.out).mono ?_); (case side1 => repeat (first | exact (Kd.C_below HR0.out HB.out) | (with_reducible refine Kd.C_alloc ?_ _) | (with_reducible refine Kd.C_drewN ?_ _) | (with_reducible refine Kd.C_drew ?_))); (case side2 => exact HC0.out); rintro e w42 ⟨v144, rfl, ho0, hb⟩; refine ⟨_, rfl, ?_⟩; have n0_ := Aside0.mk (Kd.R_lower ho0 (below_size (by repeat (first | (with_reducible first | exact HB.out | apply below_alloc | apply pw_below_drewN | apply below_drew1) | exact HB.out)))); have n1_ := Aside0.mk (below_step (by repeat (first | (with_reducible first | exact HB.out | apply below_alloc | apply pw_below_drewN | apply below_drew1) | exact HB.out)) hb); clear HB; have HO145 := n0_; have HB := n1_; clear n0_ n1_; (try clear hb); (try clear hb2); (try clear hk); (try clear hi); (try clear ho0)) | ((with_reducible refine gate_callee (f := 14) rfl ?_); refine goesL_ (some 25) rfl rfl Try.func14 (by kernel_rfl) rfl #[.slice A1 l1.length c1] rfl (by (try simp only [List.map_toArray, List.map_cons, List.map_nil]); first | done | rfl | (simp only [List.length_drop, List.length_take]; rfl)) ?_; (with_reducible refine (decanterlaw12_Of.calls kj2 _ _ l1 t146 _ ?side1 ?side2 A16.out).mono ?_); (case side1 => repeat (first | exact (Kd.C_below HR1.out HB.out) | (with_reducible refine Kd.C_alloc ?_ _) | (with_reducible refine Kd.C_drewN ?_ _) | (with_reducible refine Kd.C_drew ?_))); (case side2 => exact HC1.out); rintro e w43 ⟨v147, rfl, ho0, hb⟩; refine ⟨_, rfl, ?_⟩; have n0_ := Aside0.mk (Kd.R_elder' (by (with_reducible repeat (first | apply Kd.R_alloc | apply Kd.R_drewN | apply Kd.R_drew)); exact HO145.out) (Kd.R_base ho0) hb); have n1_ := Aside0.mk (Kd.R_lower (Kd.R_new' ho0 (Kd.R_lt (by (with_reducible repeat (first | apply Kd.R_alloc | apply Kd.R_drewN | apply Kd.R_drew)); exact HO145.out))) (below_size (by repeat (first | (with_reducible first | exact HB.out | apply below_alloc | apply pw_below_drewN | apply below_drew1) | exact HB.out)))); have n2_ := Aside0.mk (below_step (by repeat (first | (with_reducible first | exact HB.out | apply below_alloc | apply pw_below_drewN | apply below_drew1) | exact HB.out)) hb); clear HO145; clear HB; have HO145 := n0_; have HO148 := n1_; have HB := n2_; clear n0_ n1_ n2_; (try clear hb); (try clear hb2); (try clear hk); (try clear hi); (try clear ho0); obtain ⟨Ao44, co44, eo44⟩ := Kd.R_slice HO145.out; subst eo44) | ((with_reducible refine gate_callee (f := 15) rfl ?_); refine goesL_ (some 28) rfl rfl Try.func15 (by kernel_rfl) rfl #[.slice Ao44 t143.length co44] rfl (by (try simp only [List.map_toArray, List.map_cons, List.map_nil]); first | done | rfl | (simp only [List.length_drop, List.length_take]; rfl)) ?_; (with_reducible refine (arena_Count.calls kj2 _ _ t143 t149 t150 _ ?side1 ?side2 A17.out).mono ?_); (case side1 => repeat (first | exact (Kd.R_reads' HO145.out).2.2 | (with_reducible refine Kd.C_alloc ?_ _) | (with_reducible refine Kd.C_drewN ?_ _) | (with_reducible refine Kd.C_drew ?_))); (case side2 => exact (Kd.R_reads' HO145.out).2.1); rintro e w45 ⟨rfl, hb⟩; refine ⟨_, rfl, ?_⟩; have n0_ := Aside0.mk (Kd.R_below (by (with_reducible repeat (first | apply Kd.R_alloc | apply Kd.R_drewN | apply Kd.R_drew)); exact HO145.out) hb); have n1_ := Aside0.mk (Kd.R_below (by (with_reducible repeat (first | apply Kd.R_alloc | apply Kd.R_drewN | apply Kd.R_drew)); exact HO148.out) hb); have n2_ := Aside0.mk (below_step (by repeat (first | (with_reducible first | exact HB.out | apply below_alloc | apply pw_below_drewN | apply below_drew1) | exact HB.out)) hb); clear HO145; clear HO148; clear HB; have HO145 := n0_; have HO148 := n1_; have HB := n2_; clear n0_ n1_ n2_; (try clear hb); (try clear hb2); (try clear hk); (try clear hi); obtain ⟨Ao46, co46, eo46⟩ := Kd.R_slice HO148.out; subst eo46) | ((with_reducible refine gate_callee (f := 50) rfl ?_); refine goesL_ (some 33) rfl rfl Try.func50 (by kernel_rfl) rfl #[.slice Ao44 t143.length co44, .slice Ao46 t146.length co46] rfl (by (try simp only [List.map_toArray, List.map_cons, List.map_nil]); first | done | rfl | (simp only [List.length_drop, List.length_take]; rfl)) ?_; (with_reducible refine (arena_Same.calls _ _ t143 _ _ t146 t151 _ ?side1 ?side2 ?side3 ?side4 A18.out).mono ?_); (case side1 => repeat (first | exact (Kd.R_reads' HO145.out).2.2 | (with_reducible refine Kd.C_alloc ?_ _) | (with_reducible refine Kd.C_drewN ?_ _) | (with_reducible refine Kd.C_drew ?_))); (case side2 => exact (Kd.R_reads' HO145.out).2.1); (case side3 => repeat (first | exact (Kd.R_reads' HO148.out).2.2 | (with_reducible refine Kd.C_alloc ?_ _) | (with_reducible refine Kd.C_drewN ?_ _) | (with_reducible refine Kd.C_drew ?_))); (case side4 => exact (Kd.R_reads' HO148.out).2.1); rintro e w47 ⟨rfl, hb⟩; refine ⟨_, rfl, ?_⟩; have n0_ := Aside0.mk (Kd.R_below (by (with_reducible repeat (first | apply Kd.R_alloc | apply Kd.R_drewN | apply Kd.R_drew)); exact HO145.out) hb); have n1_ := Aside0.mk (Kd.R_below (by (with_reducible repeat (first | apply Kd.R_alloc | apply Kd.R_drewN | apply Kd.R_drew)); exact HO148.out) hb); have n2_ := Aside0.mk (below_step (by repeat (first | (with_reducible first | exact HB.out | apply below_alloc | apply pw_below_drewN | apply below_drew1) | exact HB.out)) hb); clear HO145; clear HO148; clear HB; have HO145 := n0_; have HO148 := n1_; have HB := n2_; clear n0_ n1_ n2_; (try clear hb); (try clear hb2); (try clear hk); (try clear hi)) | ((with_reducible refine gate_callee (f := 23) rfl ?_); refine goesL_ (some 36) rfl rfl Try.func23 (by kernel_rfl) rfl #[.slice A0 l0.length c0, .slice A1 l1.length c1] rfl (by (try simp only [List.map_toArray, List.map_cons, List.map_nil]); first | done | rfl | (simp only [List.length_drop, List.length_take]; rfl)) ?_; (with_reducible refine (decanterref12_Same.calls kj2 _ _ l0 _ _ l1 t152 _ ?side1 ?side2 ?side3 ?side4 A19.out).mono ?_); (case side1 => repeat (first | exact (Kd.C_below HR0.out HB.out) | (with_reducible refine Kd.C_alloc ?_ _) | (with_reducible refine Kd.C_drewN ?_ _) | (with_reducible refine Kd.C_drew ?_))); (case side2 => exact HC0.out); (case side3 => repeat (first | exact (Kd.C_below HR1.out HB.out) | (with_reducible refine Kd.C_alloc ?_ _) | (with_reducible refine Kd.C_drewN ?_ _) | (with_reducible refine Kd.C_drew ?_))); (case side4 => exact HC1.out); rintro e w48 ⟨rfl, hb⟩; refine ⟨_, rfl, ?_⟩; have n0_ := Aside0.mk (Kd.R_below (by (with_reducible repeat (first | apply Kd.R_alloc | apply Kd.R_drewN | apply Kd.R_drew)); exact HO145.out) hb); have n1_ := Aside0.mk (Kd.R_below (by (with_reducible repeat (first | apply Kd.R_alloc | apply Kd.R_drewN | apply Kd.R_drew)); exact HO148.out) hb); have n2_ := Aside0.mk (below_step (by repeat (first | (with_reducible first | exact HB.out | apply below_alloc | apply pw_below_drewN | apply below_drew1) | exact HB.out)) hb); clear HO145; clear HO148; clear HB; have HO145 := n0_; have HO148 := n1_; have HB := n2_; clear n0_ n1_ n2_; (try clear hb); (try clear hb2); (try clear hk); (try clear hi)) | (go_at_call 50; (with_reducible refine (arena_Same.calls _ _ t143 _ _ t143 false _ ?side1 ?side2 ?side3 ?side4 A21.out).mono ?_); (case side1 => repeat (first | exact (Kd.R_reads' HO145.out).2.2 | (with_reducible refine Kd.C_alloc ?_ _) | (with_reducible refine Kd.C_drewN ?_ _) | (with_reducible refine Kd.C_drew ?_))); (case side2 => exact (Kd.R_reads' HO145.out).2.1); (case side3 => repeat (first | exact (Kd.R_reads' HO145.out).2.2 | (with_reducible refine Kd.C_alloc ?_ _) | (with_reducible refine Kd.C_drewN ?_ _) | (with_reducible refine Kd.C_drew ?_))); (case side4 => exact (Kd.R_reads' HO145.out).2.1); rintro e w49 ⟨rfl, hb⟩; have n0_ := Aside0.mk (Kd.R_below (by (with_reducible repeat (first | apply Kd.R_alloc | apply Kd.R_drewN | apply Kd.R_drew)); exact HO145.out) hb); have n1_ := Aside0.mk (Kd.R_below (by (with_reducible repeat (first | apply Kd.R_alloc | apply Kd.R_drewN | apply Kd.R_drew)); exact HO148.out) hb); have n2_ := Aside0.mk (below_step (by repeat (first | (with_reducible first | exact HB.out | apply below_alloc | apply pw_below_drewN | apply below_drew1) | exact HB.out)) hb); clear HO145; clear HO148; clear HB; have HO145 := n0_; have HO148 := n1_; have HB := n2_; clear n0_ n1_ n2_; (try clear hb); (try clear hb2); (try clear hk); (try clear hi)))
            go_ret
            exact ⟨by first | rfl | (simp [errW_none, errW_some] <;> rfl) | (simp [*, errW_none, errW_some] <;> rfl), by repeat (first | (with_reducible first | exact HB.out | apply below_alloc | apply pw_below_drewN | apply below_drew1) | exact HB.out)⟩
        · rw [if_neg c20] at H
          have c20b0 : (t151 == t152) = false := by simpa using c20
          (try (have c20b1 : decide (t151 = t152) = false := by simpa using c20))
          (try (have c20b2 : (t151 == t152) = false := by simpa using c20))
          (try (have c20b3 : ¬ (t151 = t152) := by simpa using c20))
          clear c20
          obtain rfl := Option.some.inj H
          go_wp2_with (first | ((with_reducible refine gate_callee (f := 14) rfl ?_); refine goesL_ (some 23) rfl rfl Try.func14 (by kernel_rfl) rfl #[.slice A0 l0.length c0] rfl (by (try simp only [List.map_toArray, List.map_cons, List.map_nil]); first | done | rfl | (simp only [List.length_drop, List.length_take]; rfl)) ?_; (with_reducible refine (decanterlaw12_Of.calls kj2 _ _ l0 t143 _ ?side1 ?side2 A15.out).mono ?_); (case side1 => repeat (first | exact (Kd.C_below HR0.out HB.out) | (with_reducible refine Kd.C_alloc ?_ _) | (with_reducible refine Kd.C_drewN ?_ _) | (with_reducible refine Kd.C_drew ?_))); (case side2 => exact HC0.out); rintro e w50 ⟨v144, rfl, ho0, hb⟩; refine ⟨_, rfl, ?_⟩; have n0_ := Aside0.mk (Kd.R_lower ho0 (below_size (by repeat (first | (with_reducible first | exact HB.out | apply below_alloc | apply pw_below_drewN | apply below_drew1) | exact HB.out)))); have n1_ := Aside0.mk (below_step (by repeat (first | (with_reducible first | exact HB.out | apply below_alloc | apply pw_below_drewN | apply below_drew1) | exact HB.out)) hb); clear HB; have HO145 := n0_; have HB := n1_; clear n0_ n1_; (try clear hb); (try clear hb2); (try clear hk); (try clear hi); (try clear ho0)) | ((with_reducible refine gate_callee (f := 14) rfl ?_); refine goesL_ (some 25) rfl rfl Try.func14 (by kernel_rfl) rfl #[.slice A1 l1.length c1] rfl (by (try simp only [List.map_toArray, List.map_cons, List.map_nil]); first | done | rfl | (simp only [List.length_drop, List.length_take]; rfl)) ?_; (with_reducible refine (decanterlaw12_Of.calls kj2 _ _ l1 t146 _ ?side1 ?side2 A16.out).mono ?_); (case side1 => repeat (first | exact (Kd.C_below HR1.out HB.out) | (with_reducible refine Kd.C_alloc ?_ _) | (with_reducible refine Kd.C_drewN ?_ _) | (with_reducible refine Kd.C_drew ?_))); (case side2 => exact HC1.out); rintro e w51 ⟨v147, rfl, ho0, hb⟩; refine ⟨_, rfl, ?_⟩; have n0_ := Aside0.mk (Kd.R_elder' (by (with_reducible repeat (first | apply Kd.R_alloc | apply Kd.R_drewN | apply Kd.R_drew)); exact HO145.out) (Kd.R_base ho0) hb); have n1_ := Aside0.mk (Kd.R_lower (Kd.R_new' ho0 (Kd.R_lt (by (with_reducible repeat (first | apply Kd.R_alloc | apply Kd.R_drewN | apply Kd.R_drew)); exact HO145.out))) (below_size (by repeat (first | (with_reducible first | exact HB.out | apply below_alloc | apply pw_below_drewN | apply below_drew1) | exact HB.out)))); have n2_ := Aside0.mk (below_step (by repeat (first | (with_reducible first | exact HB.out | apply below_alloc | apply pw_below_drewN | apply below_drew1) | exact HB.out)) hb); clear HO145; clear HB; have HO145 := n0_; have HO148 := n1_; have HB := n2_; clear n0_ n1_ n2_; (try clear hb); (try clear hb2); (try clear hk); (try clear hi); (try clear ho0); obtain ⟨Ao52, co52, eo52⟩ := Kd.R_slice HO145.out; subst eo52) | ((with_reducible refine gate_callee (f := 15) rfl ?_); refine goesL_ (some 28) rfl rfl Try.func15 (by kernel_rfl) rfl #[.slice Ao52 t143.length co52] rfl (by (try simp only [List.map_toArray, List.map_cons, List.map_nil]); first | done | rfl | (simp only [List.length_drop, List.length_take]; rfl)) ?_; (with_reducible refine (arena_Count.calls kj2 _ _ t143 t149 t150 _ ?side1 ?side2 A17.out).mono ?_); (case side1 => repeat (first | exact (Kd.R_reads' HO145.out).2.2 | (with_reducible refine Kd.C_alloc ?_ _) | (with_reducible refine Kd.C_drewN ?_ _) | (with_reducible refine Kd.C_drew ?_))); (case side2 => exact (Kd.R_reads' HO145.out).2.1); rintro e w53 ⟨rfl, hb⟩; refine ⟨_, rfl, ?_⟩; have n0_ := Aside0.mk (Kd.R_below (by (with_reducible repeat (first | apply Kd.R_alloc | apply Kd.R_drewN | apply Kd.R_drew)); exact HO145.out) hb); have n1_ := Aside0.mk (Kd.R_below (by (with_reducible repeat (first | apply Kd.R_alloc | apply Kd.R_drewN | apply Kd.R_drew)); exact HO148.out) hb); have n2_ := Aside0.mk (below_step (by repeat (first | (with_reducible first | exact HB.out | apply below_alloc | apply pw_below_drewN | apply below_drew1) | exact HB.out)) hb); clear HO145; clear HO148; clear HB; have HO145 := n0_; have HO148 := n1_; have HB := n2_; clear n0_ n1_ n2_; (try clear hb); (try clear hb2); (try clear hk); (try clear hi); obtain ⟨Ao54, co54, eo54⟩ := Kd.R_slice HO148.out; subst eo54) | ((with_reducible refine gate_callee (f := 50) rfl ?_); refine goesL_ (some 33) rfl rfl Try.func50 (by kernel_rfl) rfl #[.slice Ao52 t143.length co52, .slice Ao54 t146.length co54] rfl (by (try simp only [List.map_toArray, List.map_cons, List.map_nil]); first | done | rfl | (simp only [List.length_drop, List.length_take]; rfl)) ?_; (with_reducible refine (arena_Same.calls _ _ t143 _ _ t146 t151 _ ?side1 ?side2 ?side3 ?side4 A18.out).mono ?_); (case side1 => repeat (first | exact (Kd.R_reads' HO145.out).2.2 | (with_reducible refine Kd.C_alloc ?_ _) | (with_reducible refine Kd.C_drewN ?_ _) | (with_reducible refine Kd.C_drew ?_))); (case side2 => exact (Kd.R_reads' HO145.out).2.1); (case side3 => repeat (first | exact (Kd.R_reads' HO148.out).2.2 | (with_reducible refine Kd.C_alloc ?_ _) | (with_reducible refine Kd.C_drewN ?_ _) | (with_reducible refine Kd.C_drew ?_))); (case side4 => exact (Kd.R_reads' HO148.out).2.1); rintro e w55 ⟨rfl, hb⟩; refine ⟨_, rfl, ?_⟩; have n0_ := Aside0.mk (Kd.R_below (by (with_reducible repeat (first | apply Kd.R_alloc | apply Kd.R_drewN | apply Kd.R_drew)); exact HO145.out) hb); have n1_ := Aside0.mk (Kd.R_below (by (with_reducible repeat (first | apply Kd.R_alloc | apply Kd.R_drewN | apply Kd.R_drew)); exact HO148.out) hb); have n2_ := Aside0.mk (below_step (by repeat (first | (with_reducible first | exact HB.out | apply below_alloc | apply pw_below_drewN | apply below_drew1) | exact HB.out)) hb); clear HO145; clear HO148; clear HB; have HO145 := n0_; have HO148 := n1_; have HB := n2_; clear n0_ n1_ n2_; (try clear hb); (try clear hb2); (try clear hk); (try clear hi)) | ((with_reducible refine gate_callee (f := 23) rfl ?_); refine goesL_ (some 36) rfl rfl Try.func23 (by kernel_rfl) rfl #[.slice A0 l0.length c0, .slice A1 l1.length c1] rfl (by (try simp only [List.map_toArray, List.map_cons, List.map_nil]); first | done | rfl | (simp only [List.length_drop, List.length_take]; rfl)) ?_; (with_reducible refine (decanterref12_Same.calls kj2 _ _ l0 _ _ l1 t152 _ ?side1 ?side2 ?side3 ?side4 A19.out).mono ?_); (case side1 => repeat (first | exact (Kd.C_below HR0.out HB.out) | (with_reducible refine Kd.C_alloc ?_ _) | (with_reducible refine Kd.C_drewN ?_ _) | (with_reducible refine Kd.C_drew ?_))); (case side2 => exact HC0.out); (case side3 => repeat (first | exact (Kd.C_below HR1.out HB.out) | (with_reducible refine Kd.C_alloc ?_ _) | (with_reducible refine Kd.C_drewN ?_ _) | (with_reducible refine Kd.C_drew ?_))); (case side4 => exact HC1.out); rintro e w56 ⟨rfl, hb⟩; refine ⟨_, rfl, ?_⟩; have n0_ := Aside0.mk (Kd.R_below (by (with_reducible repeat (first | apply Kd.R_alloc | apply Kd.R_drewN | apply Kd.R_drew)); exact HO145.out) hb); have n1_ := Aside0.mk (Kd.R_below (by (with_reducible repeat (first | apply Kd.R_alloc | apply Kd.R_drewN | apply Kd.R_drew)); exact HO148.out) hb); have n2_ := Aside0.mk (below_step (by repeat (first | (with_reducible first | exact HB.out | apply below_alloc | apply pw_below_drewN | apply below_drew1) | exact HB.out)) hb); clear HO145; clear HO148; clear HB; have HO145 := n0_; have HO148 := n1_; have HB := n2_; clear n0_ n1_ n2_; (try clear hb); (try clear hb2); (try clear hk); (try clear hi)))
          go_ret
          exact ⟨by first | rfl | (simp [errW_none, errW_some] <;> rfl) | (simp [*, errW_none, errW_some] <;> rfl), by repeat (first | (with_reducible first | exact HB.out | apply below_alloc | apply pw_below_drewN | apply below_drew1) | exact HB.out)⟩

end Go.Proofs.Ytcdkcnegejhnhaa.PASam
