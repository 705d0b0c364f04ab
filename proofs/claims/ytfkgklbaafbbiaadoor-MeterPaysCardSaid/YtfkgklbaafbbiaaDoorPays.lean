/-
  MeterPays: the law's own walk.
-/
import Derived.Test.YtfkgklbaafbbiaaDoorPaysWalk
import Derived.Deep.LoopGhost
import Derived.Deep.RegionWith
import Derived.Deep.RegionHeld3
import Derived.IntWalk
namespace Go.Proofs.YtfkgklbaafbbiaaDoor.Pays
open Go.RowKit Go.Proofs.YtfkgklbaafbbiaaDoor.PMeter Go.Proofs.YtfkgklbaafbbiaaDoorW.PrintWords Go.Proofs.YtfkgklbaafbbiaaDoorW.PrintLast Go.Proofs.YtfkgklbaafbbiaaDoorW.PrintMore Go.Proofs.YtfkgklbaafbbiaaDoor.Shorts Go.Proofs.YtfkgklbaafbbiaaDoor.PaysWalk
attribute [local go_sem] max2_int min2_int max_two min_two max_three min_three max_four min_four
set_option linter.unusedVariables false
set_option maxRecDepth 100000 in
set_option maxHeartbeats 8000000 in
theorem walk_few (a0 : Int) (a1 : Option Addr) (len1 cap1 : Nat) (w : World) (hPW : PW w) (b0 : I64 a0) (h : (len1 : Int) ≤ 60) (hD : ∀ x, I64 x → ∃ k, decanterref01_Decimal.f k x = some (tx x))
    (hcell : ∀ k : Nat, k < len1 → ∃ x n, a1 = some x ∧ I64 n ∧ w.cell? (x.add k) = some (.int .i64 n)) :
    Calls Tryd.prog 5 #[.int .i64 a0, .slice a1 len1 cap1] w fun e w' => e = .returned (.bool true) ∧ Below w.heap.size w w' := by
  have HP := Lib.hid hPW
  have HD := Lib.hid hD
  have HC := Lib.hid hcell
  have sp := Lib.hid (fun w => decanterlaw01_speaks.calls true w rfl)
  clear hPW hD hcell
  go_enter Tryd.func5, Tryd.ntmps5
  go_wp2_with fail
  refine (sp.out _).mono ?_
  rintro e w1 ⟨rfl, hb1⟩
  have B1 := Lib.hid hb1
  clear hb1
  go_wp2_with fail
  refine (new_calls a0 _).mono ?_
  rintro e w2 ⟨rfl, hw2⟩
  have hM2 : w2.heap[w1.heap.size]? = some (.cells #[.int .i64 (max a0 0), .int .i64 0] 74 (0, 0)) := by rw [hw2]; exact heap_alloc_new _ _
  have hb2 : Below w1.heap.size w1 w2 := by rw [hw2]; exact (Below.refl _ _).alloc (Nat.le_refl _) _
  have hM1 := B1.out.size
  generalize w1.heap.size = M at *
  have HM2 := Lib.hid hM2
  have B2 := Lib.hid (B1.out.trans (hb2.mono hM1))
  have HbM := Lib.hid hM1
  clear hw2 hM2 hb2 hM1
  go_wp2_with fail
  refine (refnew_calls a0 _).mono ?_
  rintro e w3 ⟨rfl, hb3⟩
  have HM3 := Lib.hid (heapk hb3 HM2.out)
  have B3 := Lib.hid (below_all B2.out hb3)
  clear hb3
  have T0 := Lib.hid (show Two w M w3.heap.size (max a0 0) 0 (max a0 0) 0 (w3.alloc (.cells #[.int .i64 (max a0 0), .int .i64 0] 49)) from ⟨B3.out.alloc B3.out.size _, heapk ((Below.refl _ _).alloc (Nat.le_refl _) _) HM3.out, heap_alloc_new _ _⟩)
  have HMR := Lib.hid (show M ≠ w3.heap.size from fun q => by have := lt_of_block HM3.out; omega)
  have HbR := Lib.hid B3.out.size
  clear HM2 HM3 B1 B2 B3
  go_wp2
  generalize hw4 : w3.alloc (.cells #[.int .i64 (max a0 0), .int .i64 0] 49) = w4 at *
  clear hw4
  generalize w3.heap.size = R at *
  go_loopg [29] (len1 + 1) (fun gg s29 wr => ∃ (k : Nat) (L S : Int), s29 = .int .i64 (k : Int) ∧ k ≤ len1 ∧ k + gg = len1 + 1 ∧ 0 ≤ L ∧ 0 ≤ S ∧ L + S ≤ 9223372036854775807 ∧ Hid (Two w M R L S L S wr))
  case atStart => exact ⟨0, _, _, rfl, Nat.zero_le _, by omega, by omega, by omega, by have := b0.2; omega, T0⟩
  case round =>
    clear T0
    obtain ⟨k, L, S, rfl, hk, hgg, hL, hS, hLS, HT⟩ := hrel
    have q0 := cell_of_row wr _ 0 _ _ _ HT.out.hR
    have q1 := cell_of_row wr _ 1 _ _ _ HT.out.hR
    by_cases hlt : k < len1
    · obtain ⟨x, n, rfl, hn, hx⟩ := HC.out k hlt
      have hx' : wr.cell? (x.add k) = some (.int .i64 n) := cellk HT.out.bel hx
      clear hx
      by_cases hp : L < n
      · have hnI := Lib.hid hn
        have hLI := Lib.hid (show I64 L from ⟨by omega, by omega⟩)
        obtain ⟨k1, hk1⟩ := HD.out n hn
        obtain ⟨k2, hk2⟩ := HD.out L hLI.out
        have HDA := Lib.hid (fun (M R V g : Nat) (b : Addr) (w' : World) (h : St w M R V g b L S n w') => c23 n k1 hk1 h)
        have HDB := Lib.hid (fun (M R V g : Nat) (b : Addr) (w' : World) (h : St w M R V g b L S n w') => c23 L k2 hk2 h)
        have HEA := Lib.hid (fun (M R V g : Nat) (b : Addr) (w' : World) (h : St w M R V g b L S n w') => c22 HP.out hnI.out hLI.out h)
        have z1 : (tx n).size + 4 ≤ 9223372036854775807 := by have := tx_size n hn; omega
        have z2 : (tx n).size + 4 + (tx L).size ≤ 9223372036854775807 := by have := tx_size n hn; have := tx_size L hLI.out; omega
        clear hk1 hk2 hn
        unfold of_ at *
        generalize tx n = A at *
        generalize tx L = B at *
        have z1b : decide (A.size + 4 ≤ 9223372036854775807) = true := decide_eq_true z1
        have z1c : (9223372036854775807 < A.size + 4) = False := eq_false (Nat.not_lt.2 z1)
        have z2b : decide (A.size + 4 + B.size ≤ 9223372036854775807) = true := decide_eq_true z2
        have z2c : (9223372036854775807 < A.size + 4 + B.size) = False := eq_false (Nat.not_lt.2 z2)
        go_wp2_with fail
        refine (refpay_no L S n _ hL hp).mono ?_
        rintro e w5 ⟨rfl, hb5⟩
        have T5 := Lib.hid ((HT.out.grow hb5).grow ((Below.refl _ _).alloc (Nat.le_refl _) (.cells #[.int .i64 L, .int .i64 S] 49 (0, 0))))
        have A5 := Lib.hid (heap_alloc_new w5 (.cells #[.int .i64 L, .int .i64 S] 49 (0, 0)))
        clear hb5 HT q0 q1 hx'
        go_wp2_with fail
        generalize hw5a : w5.alloc (.cells #[.int .i64 L, .int .i64 S] 49 (0, 0)) = w5a at *
        clear hw5a
        generalize w5.heap.size = V at *
        refine (pay_no_two T5.out n hL hp).mono ?_
        rintro e w6 ⟨g, rfl, hT6, hg6, hb6⟩
        have A6 := Lib.hid (heapk hb6 A5.out)
        have T6 := Lib.hid hT6
        have G6 := Lib.hid hg6
        have U6 := Lib.hid (show Below w6.heap.size w6 (w6.alloc (.cells #[.pointer none] 56 (0, 0))) from (Below.refl _ _).alloc (Nat.le_refl _) _)
        have N6 := Lib.hid (heap_alloc_new w6 (.cells #[.pointer none] 56 (0, 0)))
        have M6 := Lib.hid (show M ≠ w6.heap.size ∧ R ≠ w6.heap.size ∧ g ≠ w6.heap.size ∧ V ≠ w6.heap.size from ⟨Nat.ne_of_lt (lt_of_block hT6.hM), Nat.ne_of_lt (lt_of_block hT6.hR), Nat.ne_of_lt (lt_of_block hg6), Nat.ne_of_lt (lt_of_block A6.out)⟩)
        clear hT6 hg6 hb6 T5 A5
        obtain ⟨b, hb⟩ := (HP.out.below (T6.out.grow U6.out).bel).out
        have hbe := T6.out.bel.size
        have Hbe := Lib.hid hbe
        clear hbe
        go_wp2_with fail
        generalize hw7 : w6.alloc (.cells #[.pointer none] 56 (0, 0)) = w7 at *
        clear hw7
        have D7 : Below w7.heap.size w7 w7.drew := (Below.refl _ _).drew
        have hSt : St w M R V g b L S n w7.drew := St.of (show w7.drew.cell? ⟨0, 0, none⟩ = some (.iface 127 (.pointer (some b))) by rw [World.cell?_drew]; exact hb) ((T6.out.grow U6.out).grow D7) (heapk D7 (heapk U6.out G6.out)) (heapk D7 (heapk U6.out A6.out))
        have N7 := Lib.hid (heapk D7 N6.out)
        clear T6 A6 G6 U6 N6 D7
        generalize w6.heap.size = t at *
        have C21 := Lib.hid (c21 HP.out t M6.out (Nat.lt_of_le_of_lt (Nat.zero_le _) (World.block_lt_of_cell? _ _ HP.out.ety)) Hbe.out hSt N7.out)
        have hSt2 := hSt
        have HSt := Lib.hid hSt
        obtain ⟨c0, c1, c2, c3, _, _, _⟩ := hSt2
        clear hSt
        go_upto_region 15 with (fail)
        go_cut [90] (fun v90 wc => v90 = .bool false ∧ Hid (Two w M R L S L S wc) ∧ Hid (wc.heap[V]? = some (.cells #[.int .i64 L, .int .i64 S] 49 (0, 0))))
        case first =>
          go_region_with (first
            | (go_at_call 20; refine (MErr.is_short ⟨g, 0, none⟩ b _ c0).mono ?_; rintro e _ ⟨rfl, rfl⟩)
            | (go_at_call 21; refine C21.out.mono ?_; rintro e w8 ⟨rfl, hS8, n8⟩; have HS8 := Lib.hid hS8; obtain ⟨d0, d1, d2, d3, _, _, _⟩ := hS8)
            | (go_at_call 22; refine (HEA.out _ _ _ _ _ _ HS8.out).mono ?_; rintro e w9 ⟨rfl, hS9⟩; have HS9 := Lib.hid hS9; obtain ⟨e0, e1, e2, e3, _, _, _⟩ := hS9)
            | (go_at_call_of 23 (Value.int .i64 n); refine (HDA.out _ _ _ _ _ _ HS9.out).mono ?_; rintro e w10 ⟨rfl, hS10⟩; have HS10 := Lib.hid hS10; obtain ⟨f0, f1, f2, f3, _, _, _⟩ := hS10)
            | (go_at_call_of 23 (Value.int .i64 L); refine (HDB.out _ _ _ _ _ _ HS10.out).mono ?_; rintro e w11 ⟨rfl, hS11⟩; have HS11 := Lib.hid hS11; clear hS11))
          all_goals
            go_wp2_with fail
            go_meet
            exact ⟨rfl, Lib.hid HS11.out.2.2.2.2.1.out, Lib.hid HS11.out.2.2.2.2.2.2.out⟩
        case rest =>
          obtain ⟨rfl, T6, A6⟩ := hcut
          have v0 : wc.cell? ⟨V, 0, none⟩ = some (.int .i64 L) := cell_of_row wc _ 0 _ _ _ A6.out
          have v1 : wc.cell? ⟨V, 1, none⟩ = some (.int .i64 S) := cell_of_row wc _ 1 _ _ _ A6.out
          have r0 : wc.cell? ⟨R, 0, none⟩ = some (.int .i64 L) := cell_of_row wc _ 0 _ _ _ T6.out.hR
          have r1 : wc.cell? ⟨R, 1, none⟩ = some (.int .i64 S) := cell_of_row wc _ 1 _ _ _ T6.out.hR
          have f0 : wc.frozen? ⟨R, 0, none⟩ = false := frozen_of_two T6.out.hR
          have f1 : wc.frozen? ⟨R, 1, none⟩ = false := frozen_of_two T6.out.hR
          go_wp2_with fail
          have T7 := Lib.hid (T6.out.setR HMR.out HbR.out (L) (S))
          generalize hw7 : (wc.setCell ⟨R, 0, none⟩ (.int .i64 (L))).setCell ⟨R, 1, none⟩ (.int .i64 (S)) = w7 at *
          clear hw7 v0 v1 r0 r1 f0 f1
          have D7 : Below w7.heap.size w7 w7.drew := (Below.refl _ _).drew
          have T7d := Lib.hid (T7.out.grow D7)
          have q0 : w7.cell? ⟨R, 0, none⟩ = some (.int .i64 (L)) := cell_of_row w7 _ 0 _ _ _ T7.out.hR
          have q1 : w7.cell? ⟨R, 1, none⟩ = some (.int .i64 (S)) := cell_of_row w7 _ 1 _ _ _ T7.out.hR
          clear D7
          go_region_with (first
            | (go_at_call 24; refine (left_two T7d.out).mono ?_; rintro e _ ⟨rfl, rfl⟩)
            | (go_at_call 25; refine (spent_two T7d.out).mono ?_; rintro e _ ⟨rfl, rfl⟩))
          all_goals
            go_wp2
            go_roundg (gk - 1)
            case measure => omega
            case rel => exact ⟨k + 1, L, S, by first | rfl | go_num, by omega, by omega, by omega, by omega, by omega, T7d⟩
      · obtain ⟨m, hm⟩ : ∃ m, max n 0 = m := ⟨_, rfl⟩
        have hmL : m ≤ L := by omega
        go_wp2_with fail
        refine (refpay_ok L S n m _ hm hmL).mono ?_
        rintro e w5 ⟨rfl, hb5⟩
        have e1 : wrap64 (L - m) = L - m := by unfold wrap64; omega
        have e2 : wrap64 (S + m) = S + m := by unfold wrap64; omega
        rw [e1, e2]
        have T5 := Lib.hid ((HT.out.grow hb5).grow ((Below.refl _ _).alloc (Nat.le_refl _) (.cells #[.int .i64 (L - m), .int .i64 (S + m)] 49 (0, 0))))
        have A5 := Lib.hid (heap_alloc_new w5 (.cells #[.int .i64 (L - m), .int .i64 (S + m)] 49 (0, 0)))
        have M5 := Lib.hid (show w5.heap.size ≠ M from fun q => by have := lt_of_block (HT.out.grow hb5).hM; omega)
        have E1 := Lib.hid e1
        have E2 := Lib.hid e2
        clear hb5 HT q0 q1 hx' e1 e2
        go_wp2_with fail
        generalize hw5a : w5.alloc (.cells #[.int .i64 (L - m), .int .i64 (S + m)] 49 (0, 0)) = w5a at *
        clear hw5a
        generalize w5.heap.size = V at *
        refine (pay_ok_two T5.out HMR.out HbM.out n m hm hmL).mono ?_
        rintro e w6 ⟨rfl, hT6, hk6⟩
        rw [E1.out, E2.out] at hT6
        have T6 := Lib.hid hT6
        have A6 := Lib.hid (hk6 _ _ M5.out A5.out)
        clear hT6 hk6 A5 T5
        have v0 : w6.cell? ⟨V, 0, none⟩ = some (.int .i64 (L - m)) := cell_of_row w6 _ 0 _ _ _ A6.out
        have v1 : w6.cell? ⟨V, 1, none⟩ = some (.int .i64 (S + m)) := cell_of_row w6 _ 1 _ _ _ A6.out
        have r0 : w6.cell? ⟨R, 0, none⟩ = some (.int .i64 L) := cell_of_row w6 _ 0 _ _ _ T6.out.hR
        have r1 : w6.cell? ⟨R, 1, none⟩ = some (.int .i64 S) := cell_of_row w6 _ 1 _ _ _ T6.out.hR
        have f0 : w6.frozen? ⟨R, 0, none⟩ = false := frozen_of_two T6.out.hR
        have f1 : w6.frozen? ⟨R, 1, none⟩ = false := frozen_of_two T6.out.hR
        go_wp2_with fail
        have T7 := Lib.hid (T6.out.setR HMR.out HbR.out (L - m) (S + m))
        generalize hw7 : (w6.setCell ⟨R, 0, none⟩ (.int .i64 (L - m))).setCell ⟨R, 1, none⟩ (.int .i64 (S + m)) = w7 at *
        clear hw7 v0 v1 r0 r1 f0 f1
        have D7 : Below w7.heap.size w7 w7.drew := (Below.refl _ _).drew
        have T7d := Lib.hid (T7.out.grow D7)
        have q0 : w7.cell? ⟨R, 0, none⟩ = some (.int .i64 (L - m)) := cell_of_row w7 _ 0 _ _ _ T7.out.hR
        have q1 : w7.cell? ⟨R, 1, none⟩ = some (.int .i64 (S + m)) := cell_of_row w7 _ 1 _ _ _ T7.out.hR
        clear D7
        go_region_with (first
          | (go_at_call 24; refine (left_two T7d.out).mono ?_; rintro e _ ⟨rfl, rfl⟩)
          | (go_at_call 25; refine (spent_two T7d.out).mono ?_; rintro e _ ⟨rfl, rfl⟩))
        all_goals
          go_wp2
          go_roundg (gk - 1)
          case measure => omega
          case rel => exact ⟨k + 1, L - m, S + m, by first | rfl | go_num, by omega, by omega, by omega, by omega, by omega, T7d⟩
    · have hke : k = len1 := by omega
      subst hke
      go_wp2
      go_ret
      exact ⟨rfl, HT.out.bel⟩
set_option maxHeartbeats 4000000 in
theorem walk_many (a0 : Int) (a1 : Option Addr) (len1 cap1 : Nat) (w : World) (h : 60 < (len1 : Int)) :
    Calls Tryd.prog 5 #[.int .i64 a0, .slice a1 len1 cap1] w fun e w' => e = .returned (.bool true) ∧ Below w.heap.size w w' := by
  have sp := Lib.hid (fun w => decanterlaw01_speaks.calls true w rfl)
  go_enter Tryd.func5, Tryd.ntmps5
  go_wp2_with fail
  refine (sp.out _).mono ?_
  rintro e w1 ⟨rfl, hb1⟩
  go_wp2_with fail
  refine (sp.out _).mono ?_
  rintro e w2 ⟨rfl, hb2⟩
  go_wp2
  go_ret
  exact ⟨rfl, below_all hb1 hb2⟩
/-- The law's walk. -/
theorem walk (a0 : Int) (a1 : Option Addr) (len1 cap1 : Nat) (w : World) (hPW : PW w) (b0 : I64 a0) (hD : ∀ x, I64 x → ∃ k, decanterref01_Decimal.f k x = some (tx x))
    (hcell : ∀ k : Nat, k < len1 → ∃ x n, a1 = some x ∧ I64 n ∧ w.cell? (x.add k) = some (.int .i64 n)) :
    Calls Tryd.prog 5 #[.int .i64 a0, .slice a1 len1 cap1] w fun e w' => e = .returned (.bool true) ∧ Below w.heap.size w w' := by
  by_cases h : 60 < (len1 : Int)
  · exact walk_many a0 a1 len1 cap1 w h
  · exact walk_few a0 a1 len1 cap1 w hPW b0 (by omega) hD hcell
end Go.Proofs.YtfkgklbaafbbiaaDoor.Pays
