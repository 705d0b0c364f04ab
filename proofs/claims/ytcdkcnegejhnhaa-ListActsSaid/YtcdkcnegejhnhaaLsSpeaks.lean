/-
  Lists of entries: the document's example.
-/
import Derived.Test.YtcdkcnegejhnhaaLsSt
import Derived.Test.YtcdkcnegejhnhaaPArx8
namespace Go.Proofs.Ytcdkcnegejhnhaa.Ar
open Go.RowKit Go.Proofs.Ytcdkcnegejhnhaa.PAr Go.Proofs.YtcdkcnegejhnhaaW.PrintWords Go.Proofs.YtcdkcnegejhnhaaW.PrintLast Go.Proofs.YtcdkcnegejhnhaaW.PrintMore
set_option linter.unusedVariables false
def sb : ByteArray := ⟨#[98]⟩
/-- An element more, pushed. -/
def stepB (s : M × List Int) (name : ByteArray) (attrs : List S105) : M × List Int := (s.1.element name attrs, pushL (s.1.element name attrs) s.2 s.1.elems.length)
def spk : Nat → M × List Int
  | 0 => (M.new, [])
  | i + 1 => stepB (spk i) sb []
theorem Gd.step {s : M × List Int} {n : Nat} (h : Gd s.1 s.2 n) (name : ByteArray) (attrs : List S105) (ha : attrs.length < 1000000) : Gd (stepB s name attrs).1 (stepB s name attrs).2 (n + 2) :=
  (h.element name attrs ha).push _ (by rw [(element_len _ _ _).1]; omega)
theorem spk_good : ∀ i, Gd (spk i).1 (spk i).2 (2 * i + 1)
  | 0 => Gd.new
  | i + 1 => by have := (spk_good i).step sb [] (by decide); rw [show 2 * (i + 1) + 1 = 2 * i + 1 + 2 by omega]; exact this
theorem spk_four : (spk 4).2 = [2, 3, 4] := by decide +kernel
theorem same_ints {k : Nat} {l r : List Int} (hl : l = r) (hk : l.length + 1 ≤ k) (hb : l.length ≤ 1000000) : decanterref14_Same.f k l r = some true := by
  subst hl
  unfold decanterref14_Same.f
  rw [if_pos rfl]
  have loop : ∀ n i q : Nat, i + n = l.length → n + 1 ≤ q → decanterref14_Same.l0 q l l (i : Int) = some true := by
    intro n
    induction n with
    | zero =>
      intro i q hi hq
      obtain ⟨q, rfl⟩ : ∃ q', q = q' + 1 := ⟨q - 1, by omega⟩
      rw [decanterref14_Same.l0, if_neg (by omega)]
    | succ n ihn =>
      intro i q hi hq
      obtain ⟨q, rfl⟩ : ∃ q', q = q' + 1 := ⟨q - 1, by omega⟩
      rw [decanterref14_Same.l0, if_pos (by omega), if_pos (by omega), if_pos (by omega), if_pos rfl, show wrap64 ((i : Int) + 1) = ((i + 1 : Nat) : Int) by rw [IntWalk.wrap64_in _ (by omega)]; rfl]
      exact ihn (i + 1) q (by omega) (by omega)
  exact loop l.length 0 k (by omega) (by omega)
theorem same_calls {W : World} {v0 v1 : Value} {b0 b1 : Nat} {xs ys : List Int} (h0 : IR W b0 v0 xs) (h1 : IR W b1 v1 ys) (he : xs = ys) (hl : xs.length ≤ 1000000) :
    Calls Try.prog 34 #[v0, v1] W fun e w' => e = .returned (.bool true) ∧ Below W.heap.size W w' := by
  obtain ⟨A0, c0, rfl, hc0, hC0⟩ := h0.reads
  obtain ⟨A1, c1, rfl, hc1, hC1⟩ := h1.reads
  refine (decanterref14_Same.calls (xs.length + 1) A0 c0 xs A1 c1 ys true W hC0 hc0 hC1 hc1 (same_ints he (Nat.le_refl _) hl)).mono ?_
  rintro e w' ⟨rfl, hd⟩
  exact ⟨rfl, Drawn0.below hd⟩
theorem ir_new (W : World) (xs : List Int) (hl : xs.length ≤ 1000) : IR (W.alloc (.cells (xs.map (Value.int .i64)).toArray 3)) W.heap.size (.slice (some ⟨W.heap.size, 0, none⟩) xs.length xs.length) xs :=
  IR.mk (Nat.le_refl _) (heap_alloc_new _ _) (Nat.le_refl _) (by simp only [maxLen]; omega) (by simp) (by simpa using List.take_of_length_le (by simp))
set_option maxRecDepth 100000 in
set_option maxHeartbeats 2000000 in
theorem speaks14 (w : World) : Calls Try.prog 30 #[] w fun e w' => e = .returned (.bool true) ∧ Below w.heap.size w w' := by
  go_enter Try.func30, Try.ntmps30
  go_wp2_with fail
  refine (new_calls w).mono ?_
  rintro e w1 ⟨rfl, hA1, hB1⟩
  have B1 := Lib.hid hB1
  have C1 := Lib.hid (st_new hA1 hB1.size)
  clear hA1 hB1
  go_wp2_with (go_at_call 31; refine C1.out.mono ?_; rintro e w2 ⟨rfl, hS, hb2⟩; have S0 := Lib.hid hS; have B2 := Lib.hid (B1.out.trans (hb2.mono B1.out.size)); clear hS hb2)
  go_loopg [10] 5 (fun gg s10 wr => ∃ i : Nat, s10 = .int .i64 (i : Int) ∧ i ≤ 4 ∧ i + gg = 5 ∧ Hid (St wr w.heap.size w.heap.size w1.heap.size (spk i).1 (spk i).2) ∧ Hid (Below w.heap.size w wr))
  case atStart => exact ⟨0, rfl, by omega, rfl, S0, B2⟩
  case round =>
    obtain ⟨i, rfl, hi, hgk, HS, HB⟩ := hrel
    clear C1 S0 B2
    by_cases hlt : i < 4
    · have i1 : (i : Int) < 4 := by omega
      have i0 : (0 : Int) ≤ (i : Int) := by omega
      have gd := Lib.hid (spk_good i)
      have gd2 := Lib.hid ((spk_good i).element sb [] (by decide))
      have HE := Lib.hid (show Calls Try.prog 19 #[.pointer (some ⟨w.heap.size, 0, none⟩), .string ⟨#[98]⟩, .slice none 0 0] wr fun e w' => e = .returned (.int .i64 ((spk i).1.elems.length : Int)) ∧ St w' w.heap.size w.heap.size w1.heap.size ((spk i).1.element sb []) (spk i).2 ∧ Below w.heap.size wr w' from
        st_element HS.out gd.out (by omega) sb none 0 [] (C_nil wr) (Nat.le_refl _) (by decide))
      have hel : (spk i).1.elems.length < ((spk i).1.element sb []).elems.length := by rw [(element_len _ _ _).1]; omega
      have HP := Lib.hid (fun W hW => st_push (w := W) (base := w.heap.size) (g := w.heap.size) (b := w1.heap.size) hW gd2.out (by omega) (spk i).1.elems.length hel)
      clear hel
      go_wp2_with (first
        | (go_at_call 19; refine HE.out.mono ?_; rintro e w3 ⟨rfl, hS3, hB3⟩; have S3 := Lib.hid hS3; have B3 := Lib.hid (HB.out.trans hB3); clear hS3 hB3)
        | (go_at_call 32; refine (HP.out _ S3.out).mono ?_; rintro e w4 ⟨rfl, hS4, hB4⟩; have S4 := Lib.hid hS4; have B4 := Lib.hid (B3.out.trans hB4); clear hS4 hB4))
      go_roundg (gk - 1)
      case measure => omega
      case rel => exact ⟨i + 1, by first | rfl | go_num, by omega, by omega, S4, B4⟩
    · obtain rfl : i = 4 := by omega
      have HA := Lib.hid (st_all HS.out (spk_good 4) (by omega))
      go_wp2_with (first
        | (go_at_call 35; refine HA.out.mono ?_; rintro e w5 ⟨v5, rfl, h5, hb5⟩; rw [spk_four] at h5; have H5 := Lib.hid (h5.move (w1 := w5.alloc (.cells #[.int .i64 2, .int .i64 3, .int .i64 4] 3)) fun k hk => ((Below.refl w5.heap.size w5).alloc (Nat.le_refl _) _).block k (h5.lt k hk).2); have B5 := Lib.hid ((HB.out.trans (hb5.mono HB.out.size)).alloc (Nat.le_trans HB.out.size hb5.size) (.cells #[.int .i64 2, .int .i64 3, .int .i64 4] 3)); clear h5 hb5)
        | (go_at_call 34; refine (same_calls H5.out (ir_new _ [2, 3, 4] (by decide)) rfl (by decide)).mono ?_; rintro e w6 ⟨rfl, hb6⟩; have B6 := Lib.hid (B5.out.trans (hb6.mono B5.out.size)); clear hb6))
      go_ret
      exact ⟨rfl, B6.out⟩
end Go.Proofs.Ytcdkcnegejhnhaa.Ar
