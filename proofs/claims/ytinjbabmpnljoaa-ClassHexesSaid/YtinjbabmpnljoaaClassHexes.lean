import Derived.Test.YtinjbabmpnljoaaPureClassTells
import Derived.Lib.OthersKept
import Derived.WalkKit
import Derived.BigCall
import Derived.Below
import Derived.Handy
import Derived.Lib.Hide
namespace Go.Proofs.Ytinjbabmpnljoaa.Hexes
open Go.IntWalk Go.RowKit Go.Proofs.Ytinjbabmpnljoaa.PClassTells Go.Proofs.Ytinjbabmpnljoaa.Pure Go.Proofs.YtinjbabmpnljoaaW.PrintWords Go.Proofs.YtinjbabmpnljoaaW.PrintLast
def S : ByteArray := ⟨#[48, 49, 50, 51, 52, 53, 54, 55, 56, 57, 97, 98, 99, 100, 101, 102]⟩
theorem S_size : S.size = 16 := rfl
theorem S_at : ∀ k : Fin 16, (S[k.val]'k.2).toNat = (if k.val < 10 then 48 + k.val else 87 + k.val) := by decide
theorem drewB {w w1 : World} {B n : Nat} (h : Below B w w1) : Below B w (w1.drewN n) := ⟨h.os, h.tape, h.output, h.size, h.block⟩
theorem hexK (k : Nat) (h : k < 16) : class_Hex.f (if k < 10 then 48 + k else 87 + k : Nat) = some ((k : Int), true) := by
  rw [hex_eq _ (by split <;> omega)]
  by_cases h1 : k < 10
  · rw [if_pos h1, if_pos (by omega)]; refine congrArg some (Prod.ext ?_ rfl); show ((48 + k : Nat) : Int) - 48 = k; omega
  · rw [if_neg h1, if_neg (by omega), if_neg (by omega), if_pos (by omega)]; refine congrArg some (Prod.ext ?_ rfl); show ((87 + k : Nat) : Int) - 87 = k; omega
theorem lowK (k : Nat) (h : k < 16) : class_Lower.f (if k < 10 then 48 + k else 87 + k : Nat) = some ((if k < 10 then 48 + k else 87 + k : Nat) : Int) := by
  rw [lower_eq _ (by split <;> omega), if_neg (by split <;> omega)]
theorem hexU (k : Nat) (h : k < 16) (h1 : ¬ k < 10) : class_Hex.f (87 + (k : Int) - 97 + 65) = some ((k : Int), true) := by
  rw [hex_eq _ (by omega), if_neg (by omega), if_pos (by omega)]; refine congrArg some (Prod.ext ?_ rfl); omega
theorem lowU (k : Nat) (h : k < 16) (h1 : ¬ k < 10) : class_Lower.f (87 + (k : Int) - 97 + 65) = some ((87 + k : Nat) : Int) := by
  rw [lower_eq _ (by omega), if_pos (by omega)]; refine congrArg some ?_; omega
set_option maxHeartbeats 8000000 in
set_option maxRecDepth 100000 in
theorem walk (c : Int) (w : World) (hc : -2147483648 ≤ c ∧ c ≤ 2147483647) :
    Calls Try.prog 4 #[.int .i32 c] w fun e w' => e = .returned (.bool true) ∧ Below w.heap.size w w' := by
  go_enter Try.func4, Try.ntmps4
  go_wp2_with (go_at_call 5; refine (decanterlaw03_speaks.calls true _ speaks_eq).mono ?_; rintro e w1 ⟨rfl, hb1⟩)
  go_wp2
  have hsz := hb1.size
  have hb2 : Below w.heap.size w (w1.iter S 0) := hb1.alloc hb1.size _
  have hk0 : (w1.iter S 0).heap[w1.heap.size]? = some (.stringIter S 0) := World.iter_heap w1 S 0
  change Code.wp _ _ _ _ (w1.iter S 0)
  generalize hB : w1.heap.size = b at *
  generalize w1.iter S 0 = w2 at *
  clear hb1 hB
  go_loopg [16] 17 (fun gg _ wr => ∃ k : Nat, k ≤ 16 ∧ k + gg = 17 ∧ wr.heap[b]? = some (.stringIter S k) ∧ Below w.heap.size w wr)
  case atStart => exact ⟨0, by omega, by omega, hk0, hb2⟩
  case round =>
    obtain ⟨k, hk16, hkg, hk, hB⟩ := hrel
    clear hk0 hb2
    by_cases hp : k < 16
    · have hS := S_at ⟨k, hp⟩
      have hnext : ∀ ty, (Instr.next (.pointer (some ⟨b, 0, none⟩)) true ty).run Try.prog wr = _ := fun ty => Lib.run_next_ascii_at wr b S k ty hk hp (by rw [hS]; split <;> (simp only []; omega))
      rw [hS] at hnext
      have hk1 := Lib.iterAt_heap wr b S k (k + 1) hk
      have hB1 : Below w.heap.size w (wr.iterAt b S (k + 1)) := Lib.below_iterAt hB hsz S (k + 1)
      simp only [] at hnext
      have hH := hexK k hp
      have hL := lowK k hp
      generalize wr.iterAt b S (k + 1) = W1 at *
      by_cases h1 : k < 10
      · simp only [if_pos h1] at hnext hH hL
        have hge : decide ((10 : Int) ≤ (k : Int)) = false := decide_eq_false (by omega)
        go_wp2_with (first | (go_at_call 6; refine (class_Hex.calls _ _ _ _ hH).mono ?_; rintro e w3 ⟨rfl, ⟨nd, rfl⟩⟩) | (go_at_call 13; refine (class_Lower.calls _ _ _ hL).mono ?_; rintro e w3 ⟨rfl, ⟨nd, rfl⟩⟩))
        go_roundg (16 - k)
        case measure => omega
        case rel => exact ⟨k + 1, by omega, by omega, hk1, drewB hB1⟩
      · simp only [if_neg h1] at hnext hH hL
        have hge : decide ((10 : Int) ≤ (k : Int)) = true := decide_eq_true (by omega)
        have hHU := hexU k hp h1
        have hLU := lowU k hp h1
        simp only [Int.natCast_add, Int.cast_ofNat_Int] at hH hL hLU
        go_wp2_with (first | (go_at_call 6; (with_reducible (first | refine (class_Hex.calls _ _ _ _ hH).mono ?_ | refine (class_Hex.calls _ _ _ _ hHU).mono ?_)); rintro e w3 ⟨rfl, ⟨nd, rfl⟩⟩) | (go_at_call 13; (with_reducible (first | refine (class_Lower.calls _ _ _ hL).mono ?_ | refine (class_Lower.calls _ _ _ hLU).mono ?_)); rintro e w3 ⟨rfl, ⟨nd, rfl⟩⟩))
        go_roundg (16 - k)
        case measure => omega
        case rel => exact ⟨k + 1, by omega, by omega, hk1, drewB hB1⟩
    · have hnext : ∀ ty, (Instr.next (.pointer (some ⟨b, 0, none⟩)) true ty).run Try.prog wr = _ := fun ty => Lib.run_next_end_at wr b S k ty hk hp
      have hX : ∃ n ok, class_Hex.f c = some (n, ok) ∧ (¬ ok = true → n = 0) ∧ (ok = true → 0 ≤ n ∧ n < 16 ∧ (class_Digit.f c = some true ∨ (class_Digit.f c = some false ∧ class_Letter.f c = some true))) := by
        rw [hex_eq c hc, digit_eq, letter_eq c hc]
        by_cases g1 : 48 ≤ c ∧ c ≤ 57
        · exact ⟨c - 48, true, by rw [if_pos g1], by simp, fun _ => ⟨by omega, by omega, .inl (by rw [decide_eq_true g1])⟩⟩
        · by_cases g2 : 65 ≤ c ∧ c ≤ 70
          · exact ⟨c - 55, true, by rw [if_neg g1, if_pos g2], by simp, fun _ => ⟨by omega, by omega, .inr ⟨by rw [decide_eq_false g1], by rw [decide_eq_true (by omega)]⟩⟩⟩
          · by_cases g3 : 97 ≤ c ∧ c ≤ 102
            · exact ⟨c - 87, true, by rw [if_neg g1, if_neg g2, if_pos g3], by simp, fun _ => ⟨by omega, by omega, .inr ⟨by rw [decide_eq_false g1], by rw [decide_eq_true (by omega)]⟩⟩⟩
            · exact ⟨0, false, by rw [if_neg g1, if_neg g2, if_neg g3], by simp, by simp⟩
      obtain ⟨n, ok, hH, hno, hyes⟩ := hX
      cases ok
      · obtain rfl := hno (by simp)
        clear hyes hno
        go_wp2_with (first | (go_at_call 6; refine (class_Hex.calls _ _ _ _ hH).mono ?_; rintro e w3 ⟨rfl, ⟨nd, rfl⟩⟩))
        go_ret
        exact ⟨rfl, drewB hB⟩
      · obtain ⟨n0, n1, hd⟩ := hyes rfl
        have t0 : decide (0 ≤ n) = true := decide_eq_true n0
        have t1 : decide (n < 16) = true := decide_eq_true n1
        clear hyes hno
        rcases hd with hd | ⟨hd, hl⟩
        · go_wp2_with (first | (go_at_call 6; refine (class_Hex.calls _ _ _ _ hH).mono ?_; rintro e w3 ⟨rfl, ⟨nd, rfl⟩⟩) | (go_at_call 11; refine (class_Digit.calls _ _ _ hd).mono ?_; rintro e w3 ⟨rfl, ⟨nd, rfl⟩⟩))
          go_ret
          exact ⟨rfl, drewB hB⟩
        · go_wp2_with (first | (go_at_call 6; refine (class_Hex.calls _ _ _ _ hH).mono ?_; rintro e w3 ⟨rfl, ⟨nd, rfl⟩⟩) | (go_at_call 11; refine (class_Digit.calls _ _ _ hd).mono ?_; rintro e w3 ⟨rfl, ⟨nd, rfl⟩⟩) | (go_at_call 9; refine (class_Letter.calls _ _ _ hl).mono ?_; rintro e w3 ⟨rfl, ⟨nd, rfl⟩⟩))
          go_ret
          exact ⟨rfl, drewB hB⟩
end Go.Proofs.Ytinjbabmpnljoaa.Hexes
