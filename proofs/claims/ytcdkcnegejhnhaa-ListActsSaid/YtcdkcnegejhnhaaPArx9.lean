-- Laid by a program of this session (tools/patch_print.py) out of the translation. Not trusted: Lean checks it.
import Derived.Test.YtcdkcnegejhnhaaPArx0
namespace Go.Proofs.Ytcdkcnegejhnhaa.PAr
open Go.RowKit Go.Proofs.YtcdkcnegejhnhaaW.PrintWords Go.Proofs.YtcdkcnegejhnhaaW.PrintLast Go.Proofs.YtcdkcnegejhnhaaW.PrintMore
attribute [local go_sem] max2_int min2_int max_two min_two max_three min_three max_four min_four   -- for this text's walks alone
set_option linter.unusedVariables false
set_option linter.unusedSimpArgs false

/-! ### attr_find: function 99 -/
/-- The place of a name, from a place on; below 0: there is none. -/
def attr_find.from (p : S105 → Bool) : List S105 → Nat → Int
  | [], _ => -1
  | y :: r, i => if p y = true then (i : Int) else attr_find.from p r (i + 1)
def attr_find.named (x : ByteArray) (y : S105) : Bool := y.f0.toList == x.toList
def attr_find.f (l0 : List S105) (a1 : ByteArray) : Option Int := if l0.length < 4398046511104 then some (attr_find.from (attr_find.named a1) l0 0) else none
theorem attr_find.closure (a b x : ByteArray) (g : Nat) (w : World) (hg : w.cell? ⟨g, 0, none⟩ = some (.string x)) :
    Calls Try.prog 101 #[.agg #[.string a, .string b], .pointer (some ⟨g, 0, none⟩)] w fun e w' => e = .returned (.bool (a.toList == x.toList)) ∧ Below w.heap.size w w' := by
  have hlt := World.block_lt_of_cell? w _ hg
  have hg2 : (w.alloc (.cells #[.string a, .string b] 105)).cell? ⟨g, 0, none⟩ = some (.string x) := (((Below.refl w.heap.size w).alloc (Nat.le_refl _) _).cell hlt).trans hg
  go_enter Try.func101, Try.ntmps101
  go_wp2
  go_ret
  exact ⟨rfl, by go_grown⟩
theorem attr_find.drop_at (l : List S105) (i : Nat) (hi : i < l.length) : l.drop i = rd_T105 l (i : Int) :: l.drop (i + 1) := by
  rw [List.drop_eq_getElem_cons hi]
  unfold rd_T105
  rw [Int.toNat_natCast, List.getD_eq_getElem?_getD, List.getElem?_eq_getElem hi, Option.getD_some]
set_option maxRecDepth 100000 in
set_option maxHeartbeats 4000000 in
theorem attr_find.index (A0 : Option Addr) (c0 : Nat) (l0 : List S105) (p : S105 → Bool) (F : FuncId) (cb : Array Value) (w : World) (hl : l0.length < 4398046511104) (hr0 : Kd.C k105 w A0 l0.length l0)
    (eg : ∀ args w, (callFunc F args).run Try.prog w = .ok (.enter F args) w)
    (hc : ∀ (y : S105) (W : World), Below w.heap.size w W → Calls Try.prog F (#[.agg #[.string y.f0, .string y.f1]] ++ cb) W fun e w' => e = .returned (.bool (p y)) ∧ Below W.heap.size W w') :
    Calls Try.prog 98 #[.slice A0 l0.length c0, .func (.func F) #[] cb] w fun e w' => e = .returned (.int .i64 (attr_find.from p l0 0)) ∧ Below w.heap.size w w' := by
  have HR := Lib.hid hr0
  have HC0 := Lib.hid hc
  obtain ⟨R, hR⟩ : ∃ R, attr_find.from p l0 0 = R := ⟨_, rfl⟩
  rw [hR]
  have H0 := Lib.hid hR
  clear hr0 hR hc
  go_enter Try.func98, Try.ntmps98
  go_wp2
  go_loopg [5, 8] (l0.length + 1) (fun gg s5 s8 wr => ∃ i : Nat, s8 = .int .i64 (i : Int) ∧ i ≤ l0.length ∧ i + gg = l0.length + 1 ∧ Hid (attr_find.from p (l0.drop i) i = R) ∧ Hid (Below w.heap.size w wr))
  case atStart => exact ⟨0, rfl, Nat.zero_le _, by omega, H0, Lib.hid (Below.refl _ _)⟩
  case round =>
    clear H0
    obtain ⟨i, rfl, hi, hgk, HF, HB⟩ := hrel
    by_cases hlt : i < l0.length
    · obtain ⟨ad, hA, hc0, hc1⟩ := at_T105 HR.out (i : Int) (by omega) (by omega)
      cases hA
      replace hc0 := (HB.out.cell (World.block_lt_of_cell? w _ hc0)).trans hc0
      replace hc1 := (HB.out.cell (World.block_lt_of_cell? w _ hc1)).trans hc1
      have hf := HF.out
      rw [attr_find.drop_at l0 i hlt, attr_find.from] at hf
      generalize rd_T105 l0 (i : Int) = y at *
      rw [Int.toNat_natCast] at hc0 hc1
      clear HF
      have HC := Lib.hid (HC0.out y wr HB.out)
      cases hb : p y with
      | true =>
        rw [hb, if_pos rfl] at hf
        rw [hb] at HC
        have HF := Lib.hid hf
        clear hb hf
        go_wp2_with (refine HC.out.mono ?_; rintro e w1 ⟨rfl, hb1⟩)
        go_ret
        exact ⟨by rw [← HF.out]; rfl, HB.out.trans (hb1.mono HB.out.size)⟩
      | false =>
        rw [hb, if_neg (by decide)] at hf
        have HF := Lib.hid hf
        rw [hb] at HC
        clear hb hf
        go_wp2_with (refine HC.out.mono ?_; rintro e w1 ⟨rfl, hb1⟩)
        go_roundg (gk - 1)
        case measure => omega
        case rel => exact ⟨i + 1, rfl, by omega, by omega, HF, Lib.hid (HB.out.trans (hb1.mono HB.out.size))⟩
    · obtain rfl : i = l0.length := by omega
      have hf := HF.out
      rw [List.drop_length] at hf
      have HF2 := Lib.hid hf
      clear hf HF
      go_wp2
      go_ret
      exact ⟨by rw [← HF2.out]; rfl, HB.out⟩
set_option maxRecDepth 100000 in
set_option maxHeartbeats 4000000 in
theorem attr_find.calls (A0 : Option Addr) (c0 : Nat) (l0 : List S105) (a1 : ByteArray) (r : Int) (w : World) (hr0 : Kd.C k105 w A0 l0.length l0) (_hc0 : l0.length ≤ c0) (h : attr_find.f l0 a1 = some r) :
    Calls Try.prog 99 #[.slice A0 l0.length c0, .string a1] w fun e w' => e = .returned (.int .i64 r) ∧ Below w.heap.size w w' := by
  unfold attr_find.f at h
  split at h
  · rename_i hl
    obtain rfl := Option.some.inj h
    have HR := Lib.hid hr0
    have HB := Lib.hid ((Below.refl w.heap.size w).alloc (Nat.le_refl _) (.cells #[.string a1] 9))
    have HG : (w.alloc (.cells #[.string a1] 9)).cell? ⟨w.heap.size, 0, none⟩ = some (.string a1) := by
      have h0 : (w.alloc (.cells #[.string a1] 9)).heap[w.heap.size]? = some (.cells #[.string a1] 9) := by
        show (w.heap.push _)[w.heap.size]? = _
        simp
      simp only [World.cell?, h0]
      rfl
    have hlt : w.heap.size < (w.alloc (.cells #[.string a1] 9)).heap.size := by
      show _ < (w.heap.push _).size
      rw [Array.size_push]
      omega
    have HI := Lib.hid (attr_find.index A0 c0 l0 (attr_find.named a1) 101 #[.pointer (some ⟨w.heap.size, 0, none⟩)] _ hl (Kd.C_below HR.out HB.out) (enters_of Try.func101 (by kernel_rfl) rfl) (fun y W hW => attr_find.closure y.f0 y.f1 a1 w.heap.size W ((hW.cell hlt).trans HG)))
    clear hr0 h HG hlt
    go_enter Try.func99, Try.ntmps99
    go_wp2_with (go_at_call 98; refine HI.out.mono ?_; rintro e w1 ⟨rfl, hb1⟩)
    go_ret
    exact ⟨rfl, HB.out.trans (hb1.mono HB.out.size)⟩
  · cases h

/-! ### attr_Get: function 95 -/
def attr_Get.f (l0 : List (S105)) (a1 : ByteArray) : Option (ByteArray × Bool) := (attr_find.f l0 a1).bind fun t282 => (if t282 < 0 then (some ((⟨#[]⟩ : ByteArray), false)) else (if 0 ≤ t282 then (if t282 < (l0.length : Int) then (some ((rd_T105 l0 t282).f1, true)) else (none)) else (none)))
set_option maxHeartbeats 8000000 in
set_option maxRecDepth 100000 in
theorem attr_Get.calls (A0 : Option Addr) (c0 : Nat) (l0 : List (S105)) (a1 : ByteArray) (r1 : ByteArray) (r2 : Bool) (w : World) (hr0 : Kd.C k105 w A0 l0.length l0) (hc0 : l0.length ≤ c0) (h : attr_Get.f l0 a1 = some (r1, r2)) :
    Calls Try.prog 95 #[.slice A0 l0.length c0, .string a1] w fun e w' => e = .returned (.tuple #[.string r1, .bool r2]) ∧ Below w.heap.size w w' := by
  have HR0 := Aside0.mk hr0
  have HC0 := Aside0.mk hc0
  clear hr0 hc0
  have HB := Aside0.mk (Below.refl w.heap.size w)
  have H : ((attr_find.f l0 a1).bind fun t282 => (if t282 < 0 then (some ((⟨#[]⟩ : ByteArray), false)) else (if 0 ≤ t282 then (if t282 < (l0.length : Int) then (some ((rd_T105 l0 t282).f1, true)) else (none)) else (none)))) = some (r1, r2) := h
  clear h
  replace H := Option.bind_eq_some_iff.mp H
  obtain ⟨t282, A30, H⟩ := H
  replace H : (if t282 < 0 then (some ((⟨#[]⟩ : ByteArray), false)) else (if 0 ≤ t282 then (if t282 < (l0.length : Int) then (some ((rd_T105 l0 t282).f1, true)) else (none)) else (none))) = some (r1, r2) := H
  have A3 := Aside0.mk A30
  clear A30
  by_cases c4 : t282 < 0
  · rw [if_pos c4] at H
    have c4b0 : decide (t282 < 0) = true := decide_eq_true c4
    clear c4
    simp only [Option.some.injEq, Prod.mk.injEq] at H
    obtain ⟨rfl, rfl⟩ := H
    go_enter Try.func95, Try.ntmps95
    go_wp2_with (first | ((with_reducible refine gate_callee (f := 99) rfl ?_); refine goesL_ (some 9) rfl rfl Try.func99 (by kernel_rfl) rfl #[.slice A0 l0.length c0, .string a1] rfl (by (try simp only [List.map_toArray, List.map_cons, List.map_nil]); first | done | rfl | (simp only [List.length_drop, List.length_take]; rfl)) ?_; (with_reducible refine (attr_find.calls _ _ l0 a1 t282 _ ?side1 ?side2 A3.out).mono ?_); (case side1 => repeat (first | exact HR0.out | (with_reducible refine Kd.C_alloc ?_ _) | (with_reducible refine Kd.C_drewN ?_ _) | (with_reducible refine Kd.C_drew ?_))); (case side2 => exact HC0.out); rintro e w5 ⟨rfl, hb⟩; refine ⟨_, rfl, ?_⟩; have n0_ := Aside0.mk (below_step (by repeat (first | (with_reducible first | exact HB.out | apply below_alloc | apply pw_below_drewN | apply below_drew1) | exact HB.out)) hb); clear HB; have HB := n0_; clear n0_; (try clear hb); (try clear hb2); (try clear hk); (try clear hi)))
    go_ret2
    exact ⟨by first | rfl | (simp [errW_none, errW_some] <;> rfl) | (simp [*, errW_none, errW_some] <;> rfl), by repeat (first | (with_reducible first | exact HB.out | apply below_alloc | apply pw_below_drewN | apply below_drew1) | exact HB.out)⟩
  · rw [if_neg c4] at H
    have c4b0 : decide (t282 < 0) = false := decide_eq_false c4
    clear c4
    by_cases c6 : 0 ≤ t282
    · rw [if_pos c6] at H
      have c6b0 : decide (0 ≤ t282) = true := decide_eq_true c6
      clear c6
      by_cases c7 : t282 < (l0.length : Int)
      · rw [if_pos c7] at H
        have c7b0 : decide (t282 < (l0.length : Int)) = true := decide_eq_true c7
        clear c7
        simp only [Option.some.injEq, Prod.mk.injEq] at H
        obtain ⟨rfl, rfl⟩ := H
        go_enter Try.func95, Try.ntmps95
        go_wp2_with (first | ((with_reducible refine gate_callee (f := 99) rfl ?_); refine goesL_ (some 9) rfl rfl Try.func99 (by kernel_rfl) rfl #[.slice A0 l0.length c0, .string a1] rfl (by (try simp only [List.map_toArray, List.map_cons, List.map_nil]); first | done | rfl | (simp only [List.length_drop, List.length_take]; rfl)) ?_; (with_reducible refine (attr_find.calls _ _ l0 a1 t282 _ ?side1 ?side2 A3.out).mono ?_); (case side1 => repeat (first | exact HR0.out | (with_reducible refine Kd.C_alloc ?_ _) | (with_reducible refine Kd.C_drewN ?_ _) | (with_reducible refine Kd.C_drew ?_))); (case side2 => exact HC0.out); rintro e w8 ⟨rfl, hb⟩; refine ⟨_, rfl, ?_⟩; have n0_ := Aside0.mk (below_step (by repeat (first | (with_reducible first | exact HB.out | apply below_alloc | apply pw_below_drewN | apply below_drew1) | exact HB.out)) hb); clear HB; have HB := n0_; clear n0_; (try clear hb); (try clear hb2); (try clear hk); (try clear hi); have p283 : 0 ≤ (t282 : Int) := of_decide_eq_true (by first | (with_reducible assumption) | assumption); have q283 : t282 < (l0.length : Int) := of_decide_eq_true (by first | (with_reducible assumption) | assumption); obtain ⟨ad283, e283, hx283_0, hx283_1⟩ := at_T105 HR0.out t282 p283 q283; cases e283; replace hx283_0 := (HB.out.cell (World.block_lt_of_cell? w _ hx283_0)).trans hx283_0; replace hx283_1 := (HB.out.cell (World.block_lt_of_cell? w _ hx283_1)).trans hx283_1; replace p283 := eq_true p283; replace q283 := eq_true q283))
        go_ret2
        exact ⟨by first | rfl | (simp [errW_none, errW_some] <;> rfl) | (simp [*, errW_none, errW_some] <;> rfl), by repeat (first | (with_reducible first | exact HB.out | apply below_alloc | apply pw_below_drewN | apply below_drew1) | exact HB.out)⟩
      · rw [if_neg c7] at H
        exact absurd H (by simp)
    · rw [if_neg c6] at H
      exact absurd H (by simp)

/-! ### attr_within: function 87 -/
/-- This attribute is not one of another list. -/
def attr_within.lacks (b : List S105) (y : S105) : Bool := match attr_Get.f b y.f0 with
  | some (v, ok) => !ok || (v.toList != y.f1.toList)
  | none => true
def attr_within.f (a b : List S105) : Option Bool := if a.length < 4398046511104 ∧ b.length < 4398046511104 then some (decide (attr_find.from (attr_within.lacks b) a 0 < 0)) else none
theorem attr_within.from_lt (p : S105 → Bool) : ∀ (l : List S105) (i : Nat), attr_find.from p l i < ((i + l.length : Nat) : Int) + 1 ∧ (0 ≤ attr_find.from p l i → attr_find.from p l i < ((i + l.length : Nat) : Int))
  | [], i => ⟨by rw [attr_find.from]; omega, by rw [attr_find.from]; omega⟩
  | y :: r, i => by
    have h := attr_within.from_lt p r (i + 1)
    rw [attr_find.from, List.length_cons]
    split
    · omega
    · omega
theorem attr_within.get_some (b : List S105) (hb : b.length < 4398046511104) (x : ByteArray) : ∃ v ok, attr_Get.f b x = some (v, ok) := by
  unfold attr_Get.f attr_find.f
  rw [if_pos hb, Option.bind_some]
  have h := (attr_within.from_lt (attr_find.named x) b 0).2
  by_cases h0 : attr_find.from (attr_find.named x) b 0 < 0
  · rw [if_pos h0]
    exact ⟨_, _, rfl⟩
  · rw [if_neg h0, if_pos (by omega), if_pos (by have := h (by omega); omega)]
    exact ⟨_, _, rfl⟩
set_option maxRecDepth 100000 in
set_option maxHeartbeats 4000000 in
theorem attr_within.closure (a b : ByteArray) (A1 : Option Addr) (c1 : Nat) (l1 : List S105) (g : Nat) (w : World) (hl : l1.length < 4398046511104) (hg : w.cell? ⟨g, 0, none⟩ = some (.slice A1 l1.length c1)) (hr1 : Kd.C k105 w A1 l1.length l1) (hc1 : l1.length ≤ c1) :
    Calls Try.prog 94 #[.agg #[.string a, .string b], .pointer (some ⟨g, 0, none⟩)] w fun e w' => e = .returned (.bool (attr_within.lacks l1 ⟨a, b⟩)) ∧ Below w.heap.size w w' := by
  obtain ⟨v, ok, hget⟩ := attr_within.get_some l1 hl a
  have hlk : attr_within.lacks l1 ⟨a, b⟩ = (!ok || (v.toList != b.toList)) := by
    unfold attr_within.lacks
    rw [hget]
  rw [hlk]
  clear hlk
  have hlt := World.block_lt_of_cell? w _ hg
  have hB := (Below.refl w.heap.size w).alloc (Nat.le_refl _) (.cells #[.string a, .string b] 105)
  have hg2 : (w.alloc (.cells #[.string a, .string b] 105)).cell? ⟨g, 0, none⟩ = some (.slice A1 l1.length c1) := (hB.cell hlt).trans hg
  have hx1 : (w.alloc (.cells #[.string a, .string b] 105)).cell? ⟨w.heap.size, 1, none⟩ = some (.string b) := by
    have h0 : (w.alloc (.cells #[.string a, .string b] 105)).heap[w.heap.size]? = some (.cells #[.string a, .string b] 105) := by
      show (w.heap.push _)[w.heap.size]? = _
      simp
    simp only [World.cell?, h0]
    rfl
  have hlt2 : w.heap.size < (w.alloc (.cells #[.string a, .string b] 105)).heap.size := by
    show _ < (w.heap.push _).size
    rw [Array.size_push]
    omega
  have HG := Lib.hid (attr_Get.calls A1 c1 l1 a v ok _ (Kd.C_below hr1 hB) hc1 hget)
  have HX := Lib.hid hx1
  have HL := Lib.hid hlt2
  have HB := Lib.hid hB
  clear hr1 hc1 hget hx1 hlt2 hB
  cases ok with
  | false =>
    go_enter Try.func94, Try.ntmps94
    go_wp2_with (go_at_call 95; refine HG.out.mono ?_; rintro e w1 ⟨rfl, hb1⟩)
    go_ret
    exact ⟨rfl, HB.out.trans (hb1.mono HB.out.size)⟩
  | true =>
    go_enter Try.func94, Try.ntmps94
    go_wp2_with (go_at_call 95; refine HG.out.mono ?_; rintro e w1 ⟨rfl, hb1⟩; have hx2 := (hb1.cell HL.out).trans HX.out)
    go_ret
    exact ⟨by first | rfl | simp, HB.out.trans (hb1.mono HB.out.size)⟩
set_option maxRecDepth 100000 in
set_option maxHeartbeats 4000000 in
theorem attr_within.contains (A0 : Option Addr) (c0 : Nat) (l0 : List S105) (p : S105 → Bool) (F : FuncId) (cb : Array Value) (w : World) (hl : l0.length < 4398046511104) (hr0 : Kd.C k105 w A0 l0.length l0)
    (eg : ∀ args w, (callFunc F args).run Try.prog w = .ok (.enter F args) w)
    (hc : ∀ (y : S105) (W : World), Below w.heap.size w W → Calls Try.prog F (#[.agg #[.string y.f0, .string y.f1]] ++ cb) W fun e w' => e = .returned (.bool (p y)) ∧ Below W.heap.size W w') :
    Calls Try.prog 93 #[.slice A0 l0.length c0, .func (.func F) #[] cb] w fun e w' => e = .returned (.bool (!decide (attr_find.from p l0 0 < 0))) ∧ Below w.heap.size w w' := by
  have HI := Lib.hid (attr_find.index A0 c0 l0 p F cb w hl hr0 eg hc)
  clear hr0 eg hc
  generalize attr_find.from p l0 0 = z at *
  by_cases hz : z < 0
  · rw [decide_eq_true hz]
    go_enter Try.func93, Try.ntmps93
    go_wp2_with (go_at_call 98; refine HI.out.mono ?_; rintro e w1 ⟨rfl, hb1⟩)
    go_ret
    exact ⟨by first | rfl | (simp; omega), hb1⟩
  · rw [decide_eq_false hz]
    go_enter Try.func93, Try.ntmps93
    go_wp2_with (go_at_call 98; refine HI.out.mono ?_; rintro e w1 ⟨rfl, hb1⟩)
    go_ret
    exact ⟨by first | rfl | (simp; omega), hb1⟩
set_option maxRecDepth 100000 in
set_option maxHeartbeats 4000000 in
theorem attr_within.calls (A0 : Option Addr) (c0 : Nat) (l0 : List S105) (A1 : Option Addr) (c1 : Nat) (l1 : List S105) (r : Bool) (w : World) (hr0 : Kd.C k105 w A0 l0.length l0) (_hc0 : l0.length ≤ c0) (hr1 : Kd.C k105 w A1 l1.length l1) (hc1 : l1.length ≤ c1) (h : attr_within.f l0 l1 = some r) :
    Calls Try.prog 87 #[.slice A0 l0.length c0, .slice A1 l1.length c1] w fun e w' => e = .returned (.bool r) ∧ Below w.heap.size w w' := by
  unfold attr_within.f at h
  split at h
  · rename_i hl
    obtain ⟨hl0, hl1⟩ := hl
    obtain rfl := Option.some.inj h
    have HB := Lib.hid ((Below.refl w.heap.size w).alloc (Nat.le_refl _) (.cells #[.slice A1 l1.length c1] 29))
    have HG : (w.alloc (.cells #[.slice A1 l1.length c1] 29)).cell? ⟨w.heap.size, 0, none⟩ = some (.slice A1 l1.length c1) := by
      have h0 : (w.alloc (.cells #[.slice A1 l1.length c1] 29)).heap[w.heap.size]? = some (.cells #[.slice A1 l1.length c1] 29) := by
        show (w.heap.push _)[w.heap.size]? = _
        simp
      simp only [World.cell?, h0]
      rfl
    have hlt : w.heap.size < (w.alloc (.cells #[.slice A1 l1.length c1] 29)).heap.size := by
      show _ < (w.heap.push _).size
      rw [Array.size_push]
      omega
    have HI := Lib.hid (attr_within.contains A0 c0 l0 (attr_within.lacks l1) 94 #[.pointer (some ⟨w.heap.size, 0, none⟩)] _ hl0 (Kd.C_below hr0 HB.out) (enters_of Try.func94 (by kernel_rfl) rfl) (fun y W hW => attr_within.closure y.f0 y.f1 A1 c1 l1 w.heap.size W hl1 ((hW.cell hlt).trans HG) (Kd.C_below (Kd.C_below hr1 HB.out) hW) hc1))
    clear hr0 hr1 h HG hlt hc1
    go_enter Try.func87, Try.ntmps87
    go_wp2_with (go_at_call 93; refine HI.out.mono ?_; rintro e w1 ⟨rfl, hb1⟩)
    go_ret
    exact ⟨by first | rfl | simp, HB.out.trans (hb1.mono HB.out.size)⟩
  · cases h

/-! ### attr_Same: function 76 -/
def attr_Same.f (l0 : List (S105)) (l1 : List (S105)) : Option (Bool) := if (l0.length : Int) = (l1.length : Int) then ((attr_within.f l0 l1).bind fun t284 => (if t284 = true then ((attr_within.f l1 l0).bind fun t285 => (some t285)) else (some false))) else (some false)
set_option maxHeartbeats 8000000 in
set_option maxRecDepth 100000 in
theorem attr_Same.calls (A0 : Option Addr) (c0 : Nat) (l0 : List (S105)) (A1 : Option Addr) (c1 : Nat) (l1 : List (S105)) (r : Bool) (w : World) (hr0 : Kd.C k105 w A0 l0.length l0) (hc0 : l0.length ≤ c0) (hr1 : Kd.C k105 w A1 l1.length l1) (hc1 : l1.length ≤ c1) (h : attr_Same.f l0 l1 = some r) :
    Calls Try.prog 76 #[.slice A0 l0.length c0, .slice A1 l1.length c1] w fun e w' => e = .returned (.bool r) ∧ Below w.heap.size w w' := by
  have HR0 := Aside0.mk hr0
  have HC0 := Aside0.mk hc0
  clear hr0 hc0
  have HR1 := Aside0.mk hr1
  have HC1 := Aside0.mk hc1
  clear hr1 hc1
  have HB := Aside0.mk (Below.refl w.heap.size w)
  have H : (if (l0.length : Int) = (l1.length : Int) then ((attr_within.f l0 l1).bind fun t284 => (if t284 = true then ((attr_within.f l1 l0).bind fun t285 => (some t285)) else (some false))) else (some false)) = some r := h
  clear h
  by_cases c3 : (l0.length : Int) = (l1.length : Int)
  · rw [if_pos c3] at H
    have c3b0 : ((l0.length : Int) == (l1.length : Int)) = true := beq_iff_eq.mpr c3
    have c3b1 : ((l0.length : Int) != (l1.length : Int)) = false := bne_eq_false_iff_eq.mpr c3
    have c3b2 : (l0.length == l1.length) = true := by first | simpa using c3 | (simp at c3 ⊢; omega)
    clear c3
    replace H := Option.bind_eq_some_iff.mp H
    obtain ⟨t284, A40, H⟩ := H
    replace H : (if t284 = true then ((attr_within.f l1 l0).bind fun t285 => (some t285)) else (some false)) = some r := H
    have A4 := Aside0.mk A40
    clear A40
    by_cases c5 : t284 = true
    · subst c5
      have H1 : ((attr_within.f l1 l0).bind fun t285 => (some t285)) = some r := by rw [if_pos rfl] at H; exact H
      clear H
      have H := H1
      clear H1
      replace H := Option.bind_eq_some_iff.mp H
      obtain ⟨t285, A60, H⟩ := H
      replace H : (some t285) = some r := H
      have A6 := Aside0.mk A60
      clear A60
      obtain rfl := Option.some.inj H
      go_enter Try.func76, Try.ntmps76
      go_wp2_with (first | (go_at_call 87; (with_reducible refine (attr_within.calls _ _ l0 _ _ l1 true _ ?side1 ?side2 ?side3 ?side4 A4.out).mono ?_); (case side1 => repeat (first | exact HR0.out | (with_reducible refine Kd.C_alloc ?_ _) | (with_reducible refine Kd.C_drewN ?_ _) | (with_reducible refine Kd.C_drew ?_))); (case side2 => exact HC0.out); (case side3 => repeat (first | exact HR1.out | (with_reducible refine Kd.C_alloc ?_ _) | (with_reducible refine Kd.C_drewN ?_ _) | (with_reducible refine Kd.C_drew ?_))); (case side4 => exact HC1.out); rintro e w7 ⟨rfl, hb⟩; have n0_ := Aside0.mk (below_step (by repeat (first | (with_reducible first | exact HB.out | apply below_alloc | apply pw_below_drewN | apply below_drew1) | exact HB.out)) hb); clear HB; have HB := n0_; clear n0_; (try clear hb); (try clear hb2); (try clear hk); (try clear hi)) | (go_at_call 87; (with_reducible refine (attr_within.calls _ _ l1 _ _ l0 t285 _ ?side1 ?side2 ?side3 ?side4 A6.out).mono ?_); (case side1 => repeat (first | exact (Kd.C_below HR1.out HB.out) | (with_reducible refine Kd.C_alloc ?_ _) | (with_reducible refine Kd.C_drewN ?_ _) | (with_reducible refine Kd.C_drew ?_))); (case side2 => exact HC1.out); (case side3 => repeat (first | exact (Kd.C_below HR0.out HB.out) | (with_reducible refine Kd.C_alloc ?_ _) | (with_reducible refine Kd.C_drewN ?_ _) | (with_reducible refine Kd.C_drew ?_))); (case side4 => exact HC0.out); rintro e w8 ⟨rfl, hb⟩; have n0_ := Aside0.mk (below_step (by repeat (first | (with_reducible first | exact HB.out | apply below_alloc | apply pw_below_drewN | apply below_drew1) | exact HB.out)) hb); clear HB; have HB := n0_; clear n0_; (try clear hb); (try clear hb2); (try clear hk); (try clear hi)))
      go_ret
      exact ⟨by first | rfl | (simp [errW_none, errW_some] <;> rfl) | (simp [*, errW_none, errW_some] <;> rfl), by repeat (first | (with_reducible first | exact HB.out | apply below_alloc | apply pw_below_drewN | apply below_drew1) | exact HB.out)⟩
    · replace c5 := Bool.eq_false_iff.mpr c5
      subst c5
      have H1 : (some false) = some r := by rw [if_neg (show ¬ (false = true) by decide)] at H; exact H
      clear H
      have H := H1
      clear H1
      obtain rfl := Option.some.inj H
      go_enter Try.func76, Try.ntmps76
      go_wp2_with (first | (go_at_call 87; (with_reducible refine (attr_within.calls _ _ l0 _ _ l1 false _ ?side1 ?side2 ?side3 ?side4 A4.out).mono ?_); (case side1 => repeat (first | exact HR0.out | (with_reducible refine Kd.C_alloc ?_ _) | (with_reducible refine Kd.C_drewN ?_ _) | (with_reducible refine Kd.C_drew ?_))); (case side2 => exact HC0.out); (case side3 => repeat (first | exact HR1.out | (with_reducible refine Kd.C_alloc ?_ _) | (with_reducible refine Kd.C_drewN ?_ _) | (with_reducible refine Kd.C_drew ?_))); (case side4 => exact HC1.out); rintro e w9 ⟨rfl, hb⟩; have n0_ := Aside0.mk (below_step (by repeat (first | (with_reducible first | exact HB.out | apply below_alloc | apply pw_below_drewN | apply below_drew1) | exact HB.out)) hb); clear HB; have HB := n0_; clear n0_; (try clear hb); (try clear hb2); (try clear hk); (try clear hi)))
      go_ret
      exact ⟨by first | rfl | (simp [errW_none, errW_some] <;> rfl) | (simp [*, errW_none, errW_some] <;> rfl), by repeat (first | (with_reducible first | exact HB.out | apply below_alloc | apply pw_below_drewN | apply below_drew1) | exact HB.out)⟩
  · rw [if_neg c3] at H
    have c3b0 : ((l0.length : Int) == (l1.length : Int)) = false := beq_eq_false_iff_ne.mpr c3
    have c3b1 : ((l0.length : Int) != (l1.length : Int)) = true := bne_iff_ne.mpr c3
    have c3b2 : (l0.length == l1.length) = false := by first | simpa using c3 | (simp at c3 ⊢; omega)
    obtain rfl := Option.some.inj H
    go_enter Try.func76, Try.ntmps76
    go_wp2
    go_ret
    exact ⟨by first | rfl | (simp [errW_none, errW_some] <;> rfl) | (simp [*, errW_none, errW_some] <;> rfl), by repeat (first | (with_reducible first | exact HB.out | apply below_alloc | apply pw_below_drewN | apply below_drew1) | exact HB.out)⟩

end Go.Proofs.Ytcdkcnegejhnhaa.PAr
