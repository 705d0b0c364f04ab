/-
  For every amount and every list of payments below 2^32, MeterKeeps of the given program returns true: what is left and what is spent are together what there was, what is paid in pieces is what is paid at once, and what can't be paid changes nothing. Conditions: none.
-/
import Derived.Test.YtfkgklbaafbbiaaRows
import Derived.WalkKit
import Derived.ProofKit
import Derived.OpenShut
import Derived.ShutString
import Derived.Handy
import Derived.Deep.LoopGhost
import Derived.Lib.Hide
import Derived.ChangeOld
import Derived.Below
namespace Go.Proofs.Ytfkgklbaafbbiaa.meterKeeps
open Go.ChangeShapes Go.WideShapes Go.ChangeAt Go.RowKit
open Go.ChangeMaps (open_string shut_string)
set_option linter.unusedVariables false

theorem own : ownKnob Try.prog.godebug = none := by kernel_rfl
theorem laidOut : laidOutB Try.prog = true := by kernel_rfl

/-- WHAT THE WALK IS TOLD OF A SLICE OF INTEGERS THAT CAME IN: it is nil; or it leads to a row of 'cap' cells, the numbers 'zs' (the first 'len' are its elements, the rest its spare room), each fitting its kind. -/
def IsRow (k : IntKind) (w : World) (a : Option Addr) (len cap : Nat) (zs : List Int) : Prop :=
  (a = none ∧ len = 0 ∧ cap = 0 ∧ zs = []) ∨
  ∃ x, a = some x ∧ len ≤ cap ∧ cap ≤ maxLen ∧ zs.length = cap ∧ (∀ i, i < zs.length → w.cell? (x.add i) = some (.int k (zs.getD i 0))) ∧ ∀ n ∈ zs, (Lit.int k n).wf = true

/-! ### STEP 1: THE WALK: the Go text returns true, AND WRITES NOTHING THAT WAS THERE: 'Below w.heap.size w w'' (Derived/Below.lean: '.refl', '.alloc', '.drew', '.setCell' at a new block, '.trans'). Open each 'IsRow' by 'rcases' AHEAD of 'go_enter'; part every test ahead of the walk. -/
theorem speaks_any (w : World) : Calls Try.prog 8 #[] w fun e w' => e = .returned (.bool true) ∧ Below w.heap.size w w' := by
  go_enter Try.func8, Try.ntmps8
  go_wp2
  go_ret
  refine ⟨rfl, ?_⟩
  go_grown

theorem new_any (n : Int) (w : World) (h : 0 ≤ n) : Calls Try.prog 9 #[.int .i64 n] w fun e w' => e = .returned (.pointer (some ⟨w.heap.size, 0, none⟩)) ∧ w.alloc (.cells #[.int .i64 n, .int .i64 0] 54) = w' := by
  go_enter Try.func9, Try.ntmps9
  go_wp2
  go_ret
  exact ⟨rfl, rfl⟩

set_option maxHeartbeats 8000000 in
theorem walk_many (a0 : Int) (a1 : Option Addr) (len1 cap1 : Nat) (w : World) (h : 60 < (len1 : Int)) :
    Calls Try.prog 3 #[.int .u32 a0, .slice a1 len1 cap1] w fun e w' => e = .returned (.bool true) ∧ Below w.heap.size w w' := by
  go_enter Try.func3, Try.ntmps3
  go_wp2_with fail
  refine (speaks_any _).mono ?_
  rintro e w1 ⟨rfl, hg1⟩
  go_wp2_with fail
  refine (speaks_any _).mono ?_
  rintro e w2 ⟨rfl, hg2⟩
  go_wp2
  go_ret
  exact ⟨rfl, hg1.trans (hg2.mono hg1.size)⟩

set_option maxHeartbeats 8000000 in
theorem walk_few (a0 : Int) (a1 : Option Addr) (len1 cap1 : Nat) (w : World) (b00 : 0 ≤ a0) (b01 : a0 ≤ 4294967295) (h : (len1 : Int) ≤ 60)
    (hcell : ∀ k : Nat, k < len1 → ∃ x n, a1 = some x ∧ 0 ≤ n ∧ n ≤ 4294967295 ∧ w.cell? (x.add k) = some (.int .u32 n)) :
    Calls Try.prog 3 #[.int .u32 a0, .slice a1 len1 cap1] w fun e w' => e = .returned (.bool true) ∧ Below w.heap.size w w' := by
  have hcell' := Lib.hid hcell
  clear hcell
  go_enter Try.func3, Try.ntmps3
  go_wp2_with fail
  refine (speaks_any _).mono ?_
  rintro e w1 ⟨rfl, hg1⟩
  have hz1 := hg1.size
  go_wp2_with fail
  refine (new_any _ _ (by omega)).mono ?_
  rintro e _ ⟨rfl, rfl⟩
  go_wp2_with fail
  refine (new_any _ _ (by omega)).mono ?_
  rintro e _ ⟨rfl, rfl⟩
  go_wp2
  generalize hB' : w1.heap.size = B at *
  have hB := Lib.hid hB'
  clear hB'
  go_loopg [7, 33] len1 (fun gg s7 s33 wr => ∃ (k : Nat) (l : Int), k ≤ len1 ∧ len1 - k ≤ gg ∧ 0 ≤ l ∧ l ≤ a0 ∧ s33 = .int .i64 k ∧ s7 = .int .i64 (a0 - l) ∧ Below w.heap.size w wr ∧ B + 1 < wr.heap.size ∧
    wr.cell? ⟨B, 0, none⟩ = some (.int .i64 l) ∧ wr.cell? ⟨B, 1, none⟩ = some (.int .i64 (a0 - l)) ∧ wr.cell? ⟨B + 1, 0, none⟩ = some (.int .i64 a0) ∧ wr.cell? ⟨B + 1, 1, none⟩ = some (.int .i64 0) ∧
    wr.frozen? ⟨B, 0, none⟩ = false ∧ wr.frozen? ⟨B, 1, none⟩ = false ∧ wr.frozen? ⟨B + 1, 0, none⟩ = false ∧ wr.frozen? ⟨B + 1, 1, none⟩ = false)
  case atStart =>
    have e0 : ∀ o1 o2 : Obj, ((w1.alloc o1).alloc o2).heap.size = B + 2 := fun o1 o2 => by rw [World.size_alloc, World.size_alloc, hB.out]
    refine ⟨0, a0, by omega, by omega, b00, by omega, rfl, by rw [show a0 - a0 = 0 by omega], ((hg1.alloc (by rw [hB.out]; omega) _).alloc (by rw [World.size_alloc, hB.out]; omega) _), by rw [e0]; omega, ?_, ?_, ?_, ?_, ?_, ?_, ?_, ?_⟩
    all_goals (rw [← hB.out]; first | (simp; done) | (simp; omega))
  case round =>
    obtain ⟨k, l, hk, hgg, hl0, hl1, rfl, rfl, hbw, hsz, c0, c1, d0, d1, f0, f1, g0, g1⟩ := hrel
    by_cases hlt : k < len1
    · obtain ⟨x, n, rfl, hn0, hn1, hx⟩ := hcell'.out k hlt
      have hx' : wr.cell? (x.add k) = some (.int .u32 n) := (hbw.cell (World.block_lt_of_cell? _ _ hx)).trans hx
      clear hx
      by_cases hp : l < n
      · have c0' := fun o => (World.cell?_alloc_lt wr o ⟨B, 0, none⟩ (by show B < _; omega)).trans c0
        have c1' := fun o => (World.cell?_alloc_lt wr o ⟨B, 1, none⟩ (by show B < _; omega)).trans c1
        have d0' := fun o => (World.cell?_alloc_lt wr o ⟨B + 1, 0, none⟩ (by show B + 1 < _; omega)).trans d0
        have d1' := fun o => (World.cell?_alloc_lt wr o ⟨B + 1, 1, none⟩ (by show B + 1 < _; omega)).trans d1
        go_wp2
        go_roundg (len1 - (k + 1))
        case measure => omega
        case rel =>
          refine ⟨k + 1, l, by omega, by omega, hl0, hl1, by go_num, rfl, hbw.alloc (by have := hbw.size; omega) _, by simp; omega, c0' _, c1' _, d0' _, d1' _, ?_, ?_, ?_, ?_⟩
          · exact (World.frozen?_alloc_past (w := wr) _ B 0 (by omega)).trans f0
          · exact (World.frozen?_alloc_past (w := wr) _ B 1 (by omega)).trans f1
          · exact (World.frozen?_alloc_past (w := wr) _ (B + 1) 0 (by omega)).trans g0
          · exact (World.frozen?_alloc_past (w := wr) _ (B + 1) 1 (by omega)).trans g1
      · go_wp2
        go_roundg (len1 - (k + 1))
        case measure => omega
        case rel =>
          refine ⟨k + 1, l - n, by omega, by omega, by omega, by omega, by go_num, by go_num, (hbw.setCell (by show _ ≤ B; omega) _).setCell (by show _ ≤ B; omega) _, by simp; omega, ?_, ?_, ?_, ?_, ?_, ?_, ?_, ?_⟩
          · rw [World.cell?_setCell_other _ _ _ _ (by simp)]
            exact World.cell?_setCell_same _ _ _ c0
          · rw [World.cell?_setCell_same _ _ _ ((World.cell?_setCell_other _ _ _ _ (by simp)).trans c1)]
            go_num
          · rw [World.cell?_setCell_other _ _ _ _ (by simp), World.cell?_setCell_other _ _ _ _ (by simp)]
            exact d0
          · rw [World.cell?_setCell_other _ _ _ _ (by simp), World.cell?_setCell_other _ _ _ _ (by simp)]
            exact d1
          · simpa using f0
          · simpa using f1
          · simpa using g0
          · simpa using g1
    · have : k = len1 := by omega
      subst this
      go_wp2
      go_ret
      refine ⟨rfl, ?_⟩
      go_grown

theorem walk (a0 : Int) (a1 : Option Addr) (len1 cap1 : Nat) (z1 : List Int) (w : World) (w0 : (Lit.int .u32 a0).wf = true) (w1 : IsRow .u32 w a1 len1 cap1 z1) :
    Calls Try.prog 3 #[.int .u32 a0, .slice a1 len1 cap1] w fun e w' => e = .returned (.bool true) ∧ Below w.heap.size w w' := by
  obtain ⟨b00, b01⟩ := bounds_u32 w0
  by_cases h : 60 < (len1 : Int)
  · exact walk_many a0 a1 len1 cap1 w h
  · refine walk_few a0 a1 len1 cap1 w b00 b01 (by omega) ?_
    intro k hk
    rcases w1 with ⟨rfl, rfl, rfl, rfl⟩ | ⟨x, rfl, hl, hm, hz, hcell, hwz⟩
    · omega
    · have hkz : k < z1.length := by omega
      obtain ⟨b0, b1⟩ := bounds_u32 (hwz _ (List.getElem_mem hkz))
      exact ⟨x, z1[k], rfl, b0, b1, by rw [hcell k hkz, List.getD_eq_getElem?_getD, List.getElem?_eq_getElem hkz]; rfl⟩

/-! ### THE ROW's STEP: WRITTEN OUT: LEAVE IT -/
set_option maxRecDepth 100000 in
theorem lifted (os : Os) (started : os.Started) (H : Type) (enc : TypeId × Value → H) :
    ReturnsInHanded {} Try.checked os 3 .any (Rows.meterKeepsSpec.pre6 enc Try.prog Try.f3 Rows.meterKeepsRow.domain false) (Rows.meterKeepsSpec.post enc Try.prog Try.f3 false true false false) := by
  refine returnsInHanded_of_change (C := Try.checked) own started (by kernel_rfl) Try.func3
    (ChangeSpec.witness6 (enc := enc) (C := Try.checked) false ⟨#[], #[.int .u32 0, .slice none 0 0], []⟩ 8 (by kernel_rfl) (by kernel_rfl) (by kernel_rfl) (by kernel_rfl)) ?_
  intro W base args ds gs before hval0 hW hcnd _
  have hval : ∀ (j : Nat) t v, Try.f3.params[j]? = some t → args[j]? = some v → Value.okWide Try.prog W .any base t v := hval0
  have hW' := hW
  obtain ⟨p, q, hA0, hV, rfl, hfz, hnd⟩ := hW
  have hA : DataW.TrodAll enc Try.prog W 0 (fun _ => true) true Try.f3.params.toList args.toList ds p := hA0
  rw [Try.params3] at hA hval
  obtain ⟨v0, vs0, d0, ds0, p0, q0, hargs, rfl, rfl, h0, r0⟩ := trodAll_cons hA
  obtain ⟨v1, vs1, d1, ds1, p1, q1, rfl, rfl, rfl, h1, r1⟩ := trodAll_cons r0
  obtain ⟨rfl, rfl, rfl⟩ := trodAll_nil r1
  obtain rfl : args = #[v0, v1] := by cases args; simp_all
  obtain ⟨rfl, rfl⟩ := trodVars_none hV
  obtain ⟨a0, rfl, rfl, rfl, w0⟩ := open_int Try.underlying22 (hval 0 22 v0 rfl rfl) h0
  obtain ⟨a1, len1, cap1, rfl⟩ := okWide_slice Try.underlying23 (hval 1 23 v1 rfl rfl)
  have k1 := h1
  have lt1 : ∀ x ∈ p1, x.block < W.heap.size := by obtain ⟨m, hm⟩ := k1; exact DataW.trod_lt m _ _ _ hm
  obtain ⟨z1, w1⟩ : ∃ zs, IsRow .u32 W a1 len1 cap1 zs := by
    obtain ⟨fuel, hf⟩ := h1
    rcases open_ints Try.underlying23 Try.underlying22 (by kernel_rfl) hf with ⟨hcs, _⟩ | ⟨x, l, c, zs, hcs, _, hl, hm, hz, _, hcell, hwz⟩
    · simp [Value.cells] at hcs
      obtain ⟨rfl, rfl, rfl⟩ := hcs
      exact ⟨[], .inl ⟨rfl, rfl, rfl, rfl⟩⟩
    · simp [Value.cells] at hcs
      obtain ⟨rfl, rfl, rfl⟩ := hcs
      exact ⟨zs, .inr ⟨_, rfl, hl, hm, by simpa using hz, hcell, hwz⟩⟩
  clear hA0 hval0
  refine (walk a0 a1 len1 cap1 z1 W w0 w1).mono fun e W' ⟨he, bel⟩ => ?_
  subst he
  exact ⟨_, rfl, _, _, _, [], _, [], hW', trodAll_mk1 (shut_bool Try.underlying4 _), (trodAll_cons_mk (shut_int Try.underlying22 w0) (trodAll_cons_mk (Below.trod laidOut (by kernel_rfl) (of_decide_eq_true (by kernel_rfl)) k1 bel lt1) trodAll_mk0)), rfl, bel.frame _, fun h => by cases h⟩

theorem over : Rows.meterKeepsRow.holds Try.pinned (OpenSpec.ofChange Rows.meterKeepsSpec) :=
  OpenClaim.holds_of_wide 3 Try.f3 rfl rfl rfl rfl rfl rfl rfl ⟨rfl, rfl, rfl, rfl, rfl⟩ rfl rfl rfl rfl rfl (by kernel_rfl) Try.func3 (by kernel_rfl)
    (of_decide_eq_true (by kernel_rfl)) (by unfold Func.isWrapper; first | (rw [if_pos (by decide +kernel)]; kernel_rfl) | (rw [if_neg (by decide +kernel)]; exact ⟨rfl, rfl⟩))
    (fun os started H enc _ => lifted os started H enc)

/-- ████ THE STATEMENT ████ -/
theorem proved : Rows.MeterKeepsSaid := over
#print axioms proved
end Go.Proofs.Ytfkgklbaafbbiaa.meterKeeps
