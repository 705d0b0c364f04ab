/-
  Lists of entries: the library's walk from behind, and the place of the last mark.
-/
import Derived.RangeFuncNested
import Derived.RangeFuncBound
import Derived.RangeFuncCalls
import Derived.RangeFuncLeaves
import Derived.RangeFuncBox
import Derived.Shelf.Abstract
import Derived.Shelf.RegionOpen
import Derived.WalkKit
import Derived.OwnWalkIn
import Derived.TacticsInMore
import Derived.LoopNIn
import Derived.LoopIn
import Derived.Test.YtcdkcnegejhnhaaArLib
namespace Go.Proofs.Ytcdkcnegejhnhaa.Ar
open Go.RowKit Go.Shelf Go.Proofs.Ytcdkcnegejhnhaa.PAr Go.Proofs.YtcdkcnegejhnhaaW.PrintWords Go.Proofs.YtcdkcnegejhnhaaW.PrintLast Go.Proofs.YtcdkcnegejhnhaaW.PrintMore
set_option linter.unusedVariables false
attribute [local go_sem] Oper.semAt_some

/-- What has come when k rounds are over. -/
def upto {α : Type} (f : Nat → α) (k : Nat) : List α := (List.range k).map f
theorem upto_succ {α : Type} (f : Nat → α) (k : Nat) : upto f (k + 1) = upto f k ++ [f k] := by simp [upto, List.range_succ]
theorem upto_length {α : Type} (f : Nat → α) (k : Nat) : (upto f k).length = k := by simp [upto]
/-- The rounds from behind. -/
def fb (zs : List Int) (j : Nat) : Nat × Int := (zs.length - 1 - j, zs[zs.length - 1 - j]?.getD 0)
theorem wrapm (q : Nat) (h : q ≤ 9223372036854775807) : IntKind.i64.wrap ((q : Int) - 1) = (q : Int) - 1 := IntWalk.i64_in _ (by omega)

set_option maxRecDepth 100000 in
set_option maxHeartbeats 2000000 in
theorem back1_in (F : Fence) (n : Nat) (h88 : F.fn 88) (hro : F.round = none) (hn : 1 ≤ n) (l Bs n₀ b cap : Nat) (zs : List Int) (hreach : zs.length ≤ 9223372036854775807) (hb : b < n₀) (J Jx : List (Nat × Int) → World → Prop)
    (hY : ∀ pre x W, J pre W → pre.length < zs.length → YieldAt F (n - 1) Try.prog l #[.int .i64 (x.1 : Int), .int .i64 x.2] W fun e W' =>
      (e = .returned (.bool true) ∧ J (pre ++ [x]) W' ∧ Below n₀ W W') ∨ (e = .returned (.bool false) ∧ Jx (pre ++ [x]) W'))
    (W : World) (hBn : Bs < n₀) (hBs : W.cell? ⟨Bs, 0, none⟩ = some (.slice (some ⟨b, 0, none⟩) zs.length cap)) (hc : ∀ j, j < zs.length → W.cell? ⟨b, 0 + j, none⟩ = some (.int .i64 (zs[j]?.getD 0))) (h0 : J [] W) :
    CallsIn F n Try.prog 88 #[.func (.yield l) #[] #[], .pointer (some ⟨Bs, 0, none⟩)] W fun e W' => (∃ v, e = .returned v) ∧
      ((∃ ys, ys = upto (fb zs) zs.length ∧ J ys W') ∨ (∃ pre, (∃ k, k ≤ zs.length ∧ pre = upto (fb zs) k) ∧ Jx pre W')) := by
  have hw0 := wrapm zs.length hreach
  refine callsIn_of_wp Try.func88 rfl h88 ?_ hro
  simp only [Try.ntmps88, List.size_toArray, List.length_cons, List.length_nil, Nat.reduceAdd, Nat.reduceSub, Array.replicate_succ, Array.replicate_zero, List.push_toArray, List.append_toArray, List.nil_append, List.cons_append]
  gi_wp2
  gi_loopw [3] (fun i wr => ∃ m : Nat, m ≤ zs.length ∧ i = .int .i64 ((m : Int) - 1) ∧ J (upto (fb zs) (zs.length - m)) wr ∧ Below n₀ W wr)
    (fun i _ => (intOf i + 1).toNat)
  case atStart => exact ⟨zs.length, Nat.le_refl _, rfl, by rw [Nat.sub_self]; exact h0, Below.refl _ _⟩
  case round =>
    obtain ⟨m, hm, rfl, hJs, hnx⟩ := hrel
    have hBs' : wr.cell? ⟨Bs, 0, none⟩ = some (.slice (some ⟨b, 0, none⟩) zs.length cap) := (hnx.cell (p := ⟨Bs, 0, none⟩) hBn).trans hBs
    cases m with
    | zero =>
      rw [Nat.sub_zero] at hJs
      gi_wp2
      go_end0
      exact ⟨⟨_, rfl⟩, .inl ⟨_, rfl, hJs⟩⟩
    | succ q =>
      have eq1 : ((q + 1 : Nat) : Int) - 1 = (q : Int) := by omega
      rw [eq1]
      have hcx' : wr.cell? ⟨b, q, none⟩ = some (.int .i64 (zs[q]?.getD 0)) := by
        have := (hnx.cell (p := ⟨b, 0 + q, none⟩) hb).trans (hc q (by omega))
        rwa [Nat.zero_add] at this
      have efb : fb zs (zs.length - (q + 1)) = (q, zs[q]?.getD 0) := by
        unfold fb
        rw [show zs.length - 1 - (zs.length - (q + 1)) = q by omega]
      obtain ⟨fn, tmps, assign, body, hy, hR⟩ := hY _ (q, zs[q]?.getD 0) wr hJs (by rw [upto_length]; omega)
      dsimp only at hy
      have hwq := wrapm q (by omega)
      have hq0 : (0 : Int) ≤ (q : Int) := by omega
      have hql : (q : Int) < (zs.length : Int) := by omega
      gi_wp2
      refine hR.mono ?_
      rintro e W3 (⟨rfl, hJ3, hk3⟩ | ⟨rfl, hJx3⟩)
      · have hBs3 : W3.cell? ⟨Bs, 0, none⟩ = some (.slice (some ⟨b, 0, none⟩) zs.length cap) := (hk3.cell (p := ⟨Bs, 0, none⟩) hBn).trans hBs'
        gi_wp2
        go_roundw
        case rel => exact ⟨q, by omega, rfl, by rw [show zs.length - q = zs.length - (q + 1) + 1 by omega, upto_succ, efb]; exact hJ3, hnx.trans hk3⟩
        case measure => simp [intOf]
      · gi_wp2
        refine bodyPost_ret (results_none rfl _ _ _) rfl ?_
        exact ⟨⟨_, rfl⟩, .inr ⟨_, ⟨zs.length - (q + 1) + 1, by omega, by rw [upto_succ, efb]⟩, hJx3⟩⟩
set_option maxRecDepth 100000 in
set_option maxHeartbeats 1000000 in
theorem back1_nil_in (F : Fence) (n : Nat) (h88 : F.fn 88) (hro : F.round = none) (l Bs : Nat) (J : List (Nat × Int) → World → Prop) (W : World) (hBs : W.cell? ⟨Bs, 0, none⟩ = some (.slice none 0 0)) (h0 : J [] W) :
    CallsIn F n Try.prog 88 #[.func (.yield l) #[] #[], .pointer (some ⟨Bs, 0, none⟩)] W fun e W' => (∃ v, e = .returned v) ∧ J [] W' := by
  refine callsIn_of_wp Try.func88 rfl h88 ?_ hro
  simp only [Try.ntmps88, List.size_toArray, List.length_cons, List.length_nil, Nat.reduceAdd, Nat.reduceSub, Array.replicate_succ, Array.replicate_zero, List.push_toArray, List.append_toArray, List.nil_append, List.cons_append]
  gi_wp2
  gi_loopw [3] (fun i wr => i = .int .i64 (-1) ∧ J [] wr) (fun _ _ => 0)
  case atStart => exact ⟨rfl, h0⟩
  case round =>
    obtain ⟨rfl, hJs⟩ := hrel
    gi_wp2
    go_end0
    exact ⟨⟨_, rfl⟩, hJs⟩
set_option maxHeartbeats 1000000 in
theorem back_in (F : Fence) (n : Nat) (h83 : F.fn 83) (hro : F.round = none) (a : Option Addr) (len cap : Nat) (w : World) :
    CallsIn F n Try.prog 83 #[.slice a len cap] w fun e w' => e = .returned (.func (.func 88) #[] #[.pointer (some ⟨w.heap.size, 0, none⟩)]) ∧ w' = w.alloc (.cells #[.slice a len cap] 53) := by
  refine callsIn_of_wp Try.func83 rfl h83 ?_ hro
  simp only [Try.ntmps83, List.size_toArray, List.length_cons, List.length_nil, Nat.reduceAdd, Nat.reduceSub, Array.replicate_succ, Array.replicate_zero, List.push_toArray, List.append_toArray, List.nil_append, List.cons_append]
  gi_wp2
  go_ret
  exact ⟨rfl, rfl⟩
theorem back_stops (F : Fence) (n : Nat) (h88 : F.fn 88) (hro : F.round = none) (hn : 1 ≤ n) (Bs base : Nat) (sv : Value) (zs : List Int) (hreach : zs.length ≤ 9223372036854775807) (w : World) (hBs : Bs < w.heap.size)
    (hc : w.cell? ⟨Bs, 0, none⟩ = some sv) (n₀ : Nat) (hn₀ : n₀ ≤ w.heap.size) (hBn : Bs < n₀) (hI : IR w base sv zs) (hlt : ∀ k, sv.ownBlock = some k → k < n₀) :
    SeqStopsK F n Try.prog 88 #[.pointer (some ⟨Bs, 0, none⟩)] (fun x : Nat × Int => #[Value.int .i64 (x.1 : Int), Value.int .i64 x.2]) (Below n₀) (fun ys => ys = upto (fb zs) zs.length)
      (fun pre => ∃ k, k ≤ zs.length ∧ pre = upto (fb zs) k) zs.length w := fun l J Jx W hW _ _ hY h0 => by
  have hc' := (hW.cell (p := ⟨Bs, 0, none⟩) hBs).trans hc
  rcases hI.split with ⟨rfl, rfl⟩ | ⟨b, cap, cur, rfl, h2, h3⟩
  · exact (back1_nil_in F n h88 hro l Bs J W hc' h0).mono fun e W' ⟨he, hj⟩ => ⟨he, .inl ⟨_, rfl, hj⟩⟩
  · exact back1_in F n h88 hro hn l Bs n₀ b cap zs hreach (hlt b rfl) J Jx hY W hBn hc' (fun j hj => (hW.cell (p := ⟨b, 0 + j, none⟩) (Nat.lt_of_lt_of_le (hlt b rfl) hn₀)).trans (by rw [hI.cells j hj, List.getD_eq_getElem?_getD])) h0
/-- The place of the last mark; -1: there is none. -/
def markAt : List Int → Int
  | [] => -1
  | x :: r => if 0 ≤ markAt r then markAt r + 1 else if x = -1 then 0 else -1
theorem markAt_bounds : ∀ xs : List Int, -1 ≤ markAt xs ∧ markAt xs < (xs.length : Int)
  | [] => by simp [markAt]
  | x :: r => by
    have := markAt_bounds r
    rw [markAt, List.length_cons]
    split
    · omega
    · split <;> omega
theorem markAt_none : ∀ {xs : List Int}, (∀ j, j < xs.length → xs[j]?.getD 0 ≠ -1) → markAt xs = -1
  | [], _ => rfl
  | x :: r, h => by
    have e := markAt_none (xs := r) (fun j hj => by have := h (j + 1) (by simpa using hj); simpa using this)
    have h0 : x ≠ -1 := by have := h 0 (by simp); simpa using this
    rw [markAt, e, if_neg (by omega), if_neg h0]
theorem markAt_some : ∀ {xs : List Int} {k : Nat}, k < xs.length → xs[k]?.getD 0 = -1 → (∀ j, k < j → j < xs.length → xs[j]?.getD 0 ≠ -1) → markAt xs = k
  | [], k, hk, _, _ => by simp at hk
  | x :: r, 0, hk, hx, h => by
    have e := markAt_none (xs := r) (fun j hj => by have := h (j + 1) (by omega) (by simpa using hj); simpa using this)
    have h0 : x = -1 := by simpa using hx
    rw [markAt, e, if_neg (by omega), if_pos h0]
    rfl
  | x :: r, k + 1, hk, hx, h => by
    have e := markAt_some (xs := r) (k := k) (by simpa using hk) (by simpa using hx) (fun j h1 h2 => by have := h (j + 1) (by omega) (by simpa using h2); simpa using this)
    rw [markAt, e, if_pos (by omega)]
    rfl
theorem upto_mem {α : Type} {f : Nat → α} {k : Nat} {x : α} : x ∈ upto f k ↔ ∃ j, j < k ∧ f j = x := by simp [upto]
/-- The entries of a list: its object, and what it points to. -/
structure LsAt (w : World) (base b g : Nat) (lv : Value) (xs : List Int) : Prop where
  hb : w.heap[b]? = some (.cells #[.pointer (some ⟨g, 0, none⟩), lv] 108 (0, 0))
  le : base ≤ b
  row : IR w base lv xs
theorem LsAt.lt {w : World} {base b g : Nat} {lv : Value} {xs : List Int} (h : LsAt w base b g lv xs) : b < w.heap.size := (Array.getElem?_eq_some_iff.1 h.hb).1
theorem LsAt.cells {w : World} {base b g : Nat} {lv : Value} {xs : List Int} (h : LsAt w base b g lv xs) : w.cell? ⟨b, 0, none⟩ = some (.pointer (some ⟨g, 0, none⟩)) ∧ w.cell? ⟨b, 1, none⟩ = some lv := ⟨blk_cell h.hb 0, blk_cell h.hb 1⟩
set_option maxRecDepth 100000 in
set_option maxHeartbeats 2000000 in
theorem mark_in (F : Fence) (n : Nat) (h75 : F.fn 75) (h83 : F.fn 83) (h88 : F.fn 88) (hro : F.round = none) (hn : 3 ≤ n) {w : World} {base b g : Nat} {lv : Value} {xs : List Int} (h : LsAt w base b g lv xs) (hl : xs.length ≤ 9223372036854775807) :
    CallsIn F n Try.prog 75 #[.pointer (some ⟨b, 0, none⟩)] w fun e W' => e = .returned (.int .i64 (markAt xs)) ∧ Below w.heap.size w W' := by
  have h1 : 1 ≤ n := by omega
  have hlt := h.lt
  have hI := h.row
  obtain ⟨C0, C1⟩ := h.cells
  obtain ⟨a, len, cap, rfl⟩ : ∃ a len cap, lv = .slice a len cap := by
    rcases hI.split with ⟨rfl, _⟩ | ⟨b', cap, cur, rfl, _⟩
    · exact ⟨_, _, _, rfl⟩
    · exact ⟨_, _, _, rfl⟩
  have hob := IR.lt hI
  clear h
  refine callsIn_of_wp_marks Try.func75 rfl h75 ?_ hro
  simp only [Try.ntmps75, List.size_toArray, List.length_cons, List.length_nil, Nat.reduceAdd, Nat.reduceSub, Array.replicate_succ, Array.replicate_zero, List.push_toArray, List.append_toArray, List.nil_append, List.cons_append]
  gi_wp2_with (gi_at_call 83; refine (back_in F (n - 1) h83 hro _ _ _ _).mono ?_; rintro e w' ⟨rfl, rfl⟩)
  have bR := Boxed.new w 3 (.int .i64 0)
  have bN := Boxed.new (w.alloc (.cells #[.int .i64 0] 3)) 53 (.slice a len cap)
  rw [World.size_alloc] at bN
  have hB0 : Below w.heap.size w ((w.alloc (.cells #[.int .i64 0] 3)).alloc (.cells #[.slice a len cap] 53)) := ((Below.refl _ w).alloc (Nat.le_refl _) _).alloc (by simp) _
  refine wpIn_rangeFunc_ownG hro h1 (gf := 88) (lb := #[.pointer (some ⟨w.heap.size + 1, 0, none⟩)]) rfl h88 (enters_of Try.func88 (by kernel_rfl) rfl)
    (back_stops F (n - 1) h88 hro (by omega) (w.heap.size + 1) base _ xs hl _ (by simp) bN.cell (w.heap.size + 2) (by simp) (by omega) (hI.move fun k hk => hB0.block k (hob k hk).2) (fun k hk => by have := (hob k hk).2; omega)) belowK_t (belowK_b (by simp)) (Below.refl _ _) (fun _ => rfl)
    (fun pre W => ((∀ p ∈ pre, p.2 ≠ -1) ∧ W.cell? ⟨w.heap.size, 0, none⟩ = some (.int .i64 0) ∧ W.frozen? ⟨w.heap.size, 0, none⟩ = false) ∧ Below w.heap.size w W)
    (fun c pre W => (c = .ret ∧ ∃ ini last, pre = ini ++ [last] ∧ (∀ p ∈ ini, p.2 ≠ -1) ∧ last.2 = -1 ∧ W.cell? ⟨w.heap.size, 0, none⟩ = some (.int .i64 (last.1 : Int))) ∧ Below w.heap.size w W)
    (OwnFrom.and (Own.from (fun s A B row hs hg hr => ⟨hs.1, cell_kept hs.2.1 hg hr, (frozen_kept hs.2.1 hg hr).trans hs.2.2⟩) _) (ownFrom_below (Nat.le_refl _) (by simp; omega)))
    (fun c => OwnFrom.and (Own.from (fun s A B row hs hg hr => by obtain ⟨hc, ini, last, e1, e2, e3, e4⟩ := hs; exact ⟨hc, ini, last, e1, e2, e3, cell_kept e4 hg hr⟩) _) (ownFrom_below (Nat.le_refl _) (by simp; omega)))
    ⟨⟨by simp, (bR.alloc _).cell, (bR.alloc _).frozen⟩, hB0⟩
    (fun x => { tmps := #[.pointer (some ⟨b, 0, none⟩), undef, .pointer (some ⟨w.heap.size, 0, none⟩), .int .i64 (x.1 : Int), .int .i64 x.2, .pointer (some ⟨b, 0, none⟩), .pointer (some ⟨b, 0, none⟩), .pointer (some ⟨b, 1, none⟩), .slice a len cap, .func (.func 88) #[] #[.pointer (some ⟨w.heap.size + 1, 0, none⟩)], .int .i64 (x.1 : Int), .int .i64 x.2, undef, undef, undef], defers := [] }) ?assign ?body ?done ?stop
  case assign =>
    intro l x W K hK
    gi_wp2
    exact hK
  case body =>
    rintro l pre x W ⟨⟨hp, hcr, hfr⟩, hB⟩ _
    by_cases hx : x.2 = -1
    · have hxb : (x.2 == -1) = true := beq_iff_eq.2 hx
      gi_wp2
      exact ⟨(KeepsOthers.setCell _ _ _).from _, ⟨rfl, pre, x, rfl, hp, hx, World.cell?_setCell_same' _ _ _ (by rw [hcr]; rfl)⟩, hB.setCell (p := ⟨w.heap.size, 0, none⟩) (Nat.le_refl _) _⟩
    · have hxb : (x.2 == -1) = false := beq_eq_false_iff_ne.2 hx
      gi_wp2
      exact ⟨KeepsFrom.refl _ _, Below.refl _ _, ⟨fun p hp' => (List.mem_append.1 hp').elim (hp p) (fun e => by simp at e; subst e; exact hx), hcr, hfr⟩, hB⟩
  case done =>
    rintro D ys W hD rfl ⟨⟨hne, hcr, hfr⟩, hB⟩ hK
    gi_wp2
    have hK' := (KeepsOthers.setCell W ⟨w.heap.size, 0, none⟩ (.int .i64 (-1))).same D _ hK rfl
    refine ⟨by simp, .inl ⟨_, _, rfl, run_takeDeferred hK', ?_⟩⟩
    have hc5 := cell_kept (World.cell?_setCell_same' W ⟨w.heap.size, 0, none⟩ (.int .i64 (-1)) (by rw [hcr]; rfl)) (grownBy_putObj' _ D (.deferred none)) (fun r e => by cases e; exact ⟨_, hK', rfl⟩)
    have em : markAt xs = -1 := markAt_none fun j hj => hne (j, xs[j]?.getD 0) (upto_mem.2 ⟨xs.length - 1 - j, by omega, by unfold fb; rw [show xs.length - 1 - (xs.length - 1 - j) = j by omega]⟩)
    refine ⟨.int .i64 (-1), ?_, by rw [em], (hB.setCell (p := ⟨w.heap.size, 0, none⟩) (Nat.le_refl _) _).trans (belowK_b (w := w) (Nat.le_refl _) _ D _ _ (by simp at hD; omega) hK' rfl rfl)⟩
    simp [results, Try.f75, go_sem, hc5]
  case stop =>
    rintro D c pre W hD ⟨k, hk, rfl⟩ ⟨⟨rfl, ini, last, e1, e2, e3, hcr⟩, hB⟩ hK
    gi_wp2
    refine ⟨by simp, .inl ⟨_, _, rfl, run_takeDeferred hK, ?_⟩⟩
    have hc5 := cell_kept hcr (grownBy_putObj' _ D (.deferred none)) (fun r e => by cases e; exact ⟨_, hK, rfl⟩)
    obtain ⟨k', rfl⟩ : ∃ k', k = k' + 1 := by
      cases k with
      | zero => simp [upto] at e1
      | succ k' => exact ⟨k', rfl⟩
    rw [upto_succ] at e1
    obtain ⟨rfl, e5⟩ := List.append_inj' e1 rfl
    obtain rfl : fb xs k' = last := by simpa using e5
    have em : markAt xs = ((fb xs k').1 : Int) := markAt_some (k := xs.length - 1 - k') (by omega) e3 fun j h1 h2 => e2 (j, xs[j]?.getD 0) (upto_mem.2 ⟨xs.length - 1 - j, by omega, by unfold fb; rw [show xs.length - 1 - (xs.length - 1 - j) = j by omega]⟩)
    refine ⟨.int .i64 ((fb xs k').1 : Int), ?_, by rw [em], hB.trans (belowK_b (w := w) (Nat.le_refl _) W D _ _ (by simp at hD; omega) hK rfl rfl)⟩
    simp [results, Try.f75, go_sem, hc5]
theorem mark_calls {w : World} {base b g : Nat} {lv : Value} {xs : List Int} (h : LsAt w base b g lv xs) (hl : xs.length ≤ 9223372036854775807) :
    Calls Try.prog 75 #[.pointer (some ⟨b, 0, none⟩)] w fun e W' => e = .returned (.int .i64 (markAt xs)) ∧ Below w.heap.size w W' :=
  (callsIn_wide (n := 3)).1 (mark_in _ 3 trivial trivial trivial rfl (Nat.le_refl _) h hl)
end Go.Proofs.Ytcdkcnegejhnhaa.Ar
