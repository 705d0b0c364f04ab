-- Laid by a program of this session (tools/patch_print.py) out of the translation. Not trusted: Lean checks it.
import Derived.Test.YtinjbabmpnljoaaDoorPClassTx0
namespace Go.Proofs.YtinjbabmpnljoaaDoor.PClassT
open Go.RowKit Go.Proofs.YtinjbabmpnljoaaDoorW.PrintWords Go.Proofs.YtinjbabmpnljoaaDoorW.PrintLast Go.Proofs.YtinjbabmpnljoaaDoorW.PrintMore
attribute [local go_sem] max2_int min2_int max_two min_two max_three min_three max_four min_four   -- for this text's walks alone
set_option linter.unusedVariables false
set_option linter.unusedSimpArgs false

/-! ### class_Small: function 22 -/
def class_Small.lowB (b : UInt8) : UInt8 := if 65 ≤ b.toNat ∧ b.toNat ≤ 90 then b + 32 else b
def class_Small.lowI (c : Int) : Int := if 65 ≤ c ∧ c ≤ 90 then c + 32 else c
def class_Small.smallBytes (s : ByteArray) : ByteArray := ⟨(s.data.toList.map class_Small.lowB).toArray⟩
theorem class_Small.lowI_lowB (b : UInt8) : class_Small.lowI (b.toNat : Int) = ((class_Small.lowB b).toNat : Int) := by
  have := b.toNat_lt
  unfold class_Small.lowI class_Small.lowB
  by_cases h : 65 ≤ b.toNat ∧ b.toNat ≤ 90
  · rw [if_pos (by omega), if_pos h, UInt8.toNat_add]
    have e : (32 : UInt8).toNat = 32 := rfl
    rw [e]
    omega
  · rw [if_neg (by omega), if_neg h]
theorem class_Small.lower_any (c : Int) (w : World) (h0 : 0 ≤ c) (h1 : c ≤ 255) : Calls Tryd.prog 37 #[.int .i32 c] w fun e w' => e = .returned (.int .i32 (class_Small.lowI c)) ∧ w = w' := by
  rcases (show c < 65 ∨ (65 ≤ c ∧ c ≤ 90) ∨ 90 < c by omega) with h | ⟨h, h'⟩ | h
  · go_enter Tryd.func37, Tryd.ntmps37
    go_wp2
    go_ret
    exact ⟨by unfold class_Small.lowI; rw [if_neg (by omega)]; rfl, rfl⟩
  · go_enter Tryd.func37, Tryd.ntmps37
    go_wp2
    go_ret
    exact ⟨by unfold class_Small.lowI; rw [if_pos ⟨h, h'⟩]; rfl, rfl⟩
  · go_enter Tryd.func37, Tryd.ntmps37
    go_wp2
    go_ret
    exact ⟨by unfold class_Small.lowI; rw [if_neg (by omega)]; rfl, rfl⟩
/-- Which byte stands at place j, k of them made small. -/
def class_Small.smAt (s : ByteArray) (k j : Nat) : Int := if j < k then class_Small.lowI ((s.data.toList.getD j 0).toNat : Int) else ((s.data.toList.getD j 0).toNat : Int)
theorem class_Small.row_at (s : ByteArray) (c j : Nat) (hj : j < s.size) : (bytesRow s c)[j]? = some (.int .u8 ((s.data.toList.getD j 0).toNat : Int)) := by
  have hl : j < s.data.size := hj
  have e : (s.data.toList.getD j 0) = s.data[j] := by
    rw [List.getD_eq_getElem?_getD, List.getElem?_eq_getElem (by simpa using hl)]
    simp
  rw [e]
  unfold bytesRow
  rw [Array.getElem?_append_left (by simpa using hl), Array.getElem?_map, Array.getElem?_eq_getElem hl]
  rfl
theorem class_Small.row_size (s : ByteArray) (c : Nat) : s.size ≤ (bytesRow s c).size := by
  unfold bytesRow
  rw [Array.size_append, Array.size_map]
  have e : s.data.size = s.size := rfl
  omega
set_option maxRecDepth 100000 in
set_option maxHeartbeats 4000000 in
theorem class_Small.small_any (s : ByteArray) (w : World) (h : s.size ≤ 140737488351232) : Calls Tryd.prog 22 #[.string s] w fun e w' => e = .returned (.string (class_Small.smallBytes s)) ∧ Below w.heap.size w w' := by
  have hconv := fun W : World => run_bytes_of_string (P := Tryd.prog) W 9 22 5 s Tryd.underlying9 Tryd.underlying22 Tryd.underlying5
  go_enter Tryd.func22, Tryd.ntmps22
  go_wp2
  clear hconv
  generalize hc : grownCap w s.size 0 5 = c
  have hrow : ∀ W : World, W = (w.alloc (.cells (bytesRow s c) 5 ((bytesRow s c).size, (bytesRow s c).size + 1))).drew → Below w.heap.size w W ∧ w.heap.size < W.heap.size ∧ ∀ j, j < s.size → W.cell? ⟨w.heap.size, j, none⟩ = some (.int .u8 (class_Small.smAt s 0 j)) ∧ W.frozen? ⟨w.heap.size, j, none⟩ = false := by
    rintro W rfl
    refine ⟨Below.drew ((Below.refl _ _).alloc (Nat.le_refl _) _), by rw [World.size_drew, World.size_alloc]; omega, fun j hj => ⟨?_, ?_⟩⟩
    · rw [World.cell?_drew, World.cell?_alloc_mark, class_Small.row_at s c j hj]
      unfold class_Small.smAt
      rw [if_neg (by omega)]
    · rw [World.frozen?_drew, World.frozen?_alloc_mark]
      have := class_Small.row_size s c
      rw [decide_eq_false (by omega)]
      rfl
  obtain ⟨W0, hW0⟩ : ∃ W0, W0 = (w.alloc (.cells (bytesRow s c) 5 ((bytesRow s c).size, (bytesRow s c).size + 1))).drew := ⟨_, rfl⟩
  obtain ⟨hb, hz, hcell⟩ := hrow W0 hW0
  rw [← hW0]
  clear hW0 hrow hc
  have hcell' := Lib.hid hcell
  clear hcell
  go_loopg [10] s.size (fun gg s10 wr => ∃ k : Nat, k ≤ s.size ∧ s.size - k ≤ gg ∧ s10 = .int .i64 k ∧ Hid (Below w.heap.size w wr) ∧ Hid (∀ j, j < s.size → wr.cell? ⟨w.heap.size, j, none⟩ = some (.int .u8 (class_Small.smAt s k j)) ∧ wr.frozen? ⟨w.heap.size, j, none⟩ = false))
  case atStart => exact ⟨0, by omega, by omega, rfl, hb, hcell'⟩
  case round =>
    clear hcell' hb hz
    obtain ⟨k, hk, hgg, rfl, HB, HC⟩ := hrel
    by_cases hlt : k < s.size
    · obtain ⟨hx, hf⟩ := HC.out k hlt
      have hx0 : class_Small.smAt s k k = ((s.data.toList.getD k 0).toNat : Int) := by unfold class_Small.smAt; rw [if_neg (by omega)]
      rw [hx0] at hx
      clear hx0
      obtain ⟨b, hb⟩ : ∃ b : UInt8, b = s.data.toList.getD k 0 := ⟨_, rfl⟩
      rw [← hb] at hx
      have Hb := Lib.hid hb
      clear hb
      have hb1 : (b.toNat : Int) ≤ 255 := by have := b.toNat_lt; omega
      have hb0 : 0 ≤ (b.toNat : Int) := by omega
      have hl0 : 0 ≤ class_Small.lowI (b.toNat : Int) := by unfold class_Small.lowI; split <;> omega
      have hl1 : class_Small.lowI (b.toNat : Int) ≤ 255 := by unfold class_Small.lowI; split <;> omega
      go_wp2_with (go_at_call 37; refine (class_Small.lower_any _ _ (by omega) (by omega)).mono ?_; rintro e w' ⟨rfl, rfl⟩)
      go_roundg (s.size - (k + 1))
      case measure => omega
      case rel =>
        refine ⟨k + 1, by omega, by omega, by go_num, HB.out.setCell (Nat.le_refl _) _, fun j hj => ?_⟩
        obtain ⟨hy, hfy⟩ := HC.out j hj
        refine ⟨?_, by rw [World.frozen?_setCell]; exact hfy⟩
        by_cases e : j = k
        · subst e
          rw [World.cell?_setCell_same _ _ _ hx]
          unfold class_Small.smAt
          rw [if_pos (by omega), ← Hb.out]
        · rw [World.cell?_setCell_other _ _ _ _ (by intro hh; injection hh with _ hh; exact e hh.symm), hy]
          unfold class_Small.smAt
          by_cases h2 : j < k
          · rw [if_pos h2, if_pos (by omega)]
          · rw [if_neg h2, if_neg (by omega)]
    · have hk' : k = s.size := by omega
      subst hk'
      have hback : (convert 22 9 (.slice (some ⟨w.heap.size, 0, none⟩) (s.data.toList.map class_Small.lowB).length c)).run Tryd.prog wr = .ok (.string ⟨(s.data.toList.map class_Small.lowB).toArray⟩) wr := by
        refine run_convert_bytes_back wr 22 9 5 _ c _ Tryd.underlying22 Tryd.underlying5 Tryd.underlying9 (fun j hj => ?_)
        have hj' : j < s.size := by simpa using hj
        have hx := (HC.out j hj').1
        unfold class_Small.smAt at hx
        rw [if_pos hj'] at hx
        rw [add_plain, hx, List.getElem_map, ← class_Small.lowI_lowB]
        rw [List.getD_eq_getElem?_getD, List.getElem?_eq_getElem (by simpa using hj)]
        rfl
      have hlen : (s.data.toList.map class_Small.lowB).length = s.size := by simp
      rw [hlen] at hback
      clear hlen
      go_wp2
      go_ret
      exact ⟨rfl, HB.out⟩
def class_Small.f (a0 : ByteArray) : Option ByteArray := if a0.size ≤ 140737488351232 then some (class_Small.smallBytes a0) else none
theorem class_Small.calls (a0 : ByteArray) (r : ByteArray) (w : World) (h : class_Small.f a0 = some r) :
    Calls Tryd.prog 22 #[.string a0] w fun e w' => e = .returned (.string r) ∧ Below w.heap.size w w' := by
  unfold class_Small.f at h
  by_cases h0 : a0.size ≤ 140737488351232
  · rw [if_pos h0] at h
    obtain rfl := Option.some.inj h
    exact class_Small.small_any a0 w h0
  · rw [if_neg h0] at h
    cases h

/-! ### class_Blank: function 29 -/
def class_Blank.f (a0 : Int) : Option Bool := if -2147483648 ≤ a0 then (if a0 ≤ 2147483647 then some (decide (a0 = 9 ∨ a0 = 10 ∨ a0 = 12 ∨ a0 = 32)) else none) else none
theorem class_Blank.ret_bool {a b : Bool} (h : a = b) : Ending.returned (.bool a) = .returned (.bool b) := by rw [h]
theorem class_Blank.bl_iter (w : World) (s : ByteArray) (p : Nat) : Below w.heap.size w (w.iter s p) := (Below.refl _ _).alloc (Nat.le_refl _) _
theorem class_Blank.bl_drewN {B : Nat} {w W : World} (h : Below B w W) (n : Nat) : Below B w (W.drewN n) := ⟨h.os, h.tape, h.output, h.size, h.block⟩
theorem class_Blank.ibs (s : ByteArray) (c : Int) (w : World) : (callFunc 68 #[.string s, .int .u8 c]).run Tryd.prog w = .ok (.value (.int .i64 (Lib.indexByte s.data.toList c.toNat.toUInt8))) w := by
  rw [run_callFunc_extern Tryd.func68 (by kernel_rfl) (by kernel_rfl) (by kernel_rfl) (e := Extern.BytealgIndexByte.indexByte) (by kernel_rfl), Lib.run_indexByteString]
  rfl
theorem class_Blank.ib20 (s : ByteArray) (c : Int) (w : World) : Calls Tryd.prog 62 #[.string s, .int .u8 c] w fun e w' => e = .returned (.int .i64 (Lib.indexByte s.data.toList c.toNat.toUInt8)) ∧ w' = w := by
  have hib := class_Blank.ibs
  go_enter Tryd.func62, Tryd.ntmps62
  go_wp2
  go_ret
  exact ⟨rfl, rfl⟩
theorem class_Blank.quiet_add_same {P : Program} {f : FuncId} {args : Array Value} {w : World} {a n : Nat} {v : Value}
    (h : Calls P f args (w.drewN (a + n)) fun e w' => e = .returned v ∧ w' = w.drewN (a + n)) :
    Calls P f args (w.drewN (a + n)) fun e w'' => e = .returned v ∧ ∃ m, w'' = w.drewN (a + m) :=
  h.mono fun _ _ ⟨he, hm⟩ => ⟨he, n, hm⟩
theorem class_Blank.ib_none : ∀ (l : List UInt8) (c : UInt8), (∀ x ∈ l, x.toNat < 128) → 128 ≤ c.toNat → Lib.indexByte l c = -1
  | [], _, _, _ => rfl
  | x :: l, c, h, hc => by
    have hx : (x == c) = false := by
      rw [beq_eq_false_iff_ne]
      rintro rfl
      have := h x (List.mem_cons_self)
      omega
    unfold Lib.indexByte
    rw [hx, class_Blank.ib_none l c (fun y hy => h y (List.mem_cons_of_mem _ hy)) hc]
    rfl
/-- A character beyond ASCII: its last byte is no ASCII byte. -/
theorem class_Blank.enc_shape (a0 : Int) (h : 128 ≤ a0) (h1 : a0 ≤ 1114111) (h2 : a0 < 55296 ∨ 57344 ≤ a0) : (∃ x y : UInt8, 128 ≤ (y.toNat : Int) ∧ Utf8.encode a0 = ⟨#[x, y]⟩) ∨ (∃ x u y : UInt8, 128 ≤ (y.toNat : Int) ∧ Utf8.encode a0 = ⟨#[x, u, y]⟩) ∨ (∃ x u v y : UInt8, 128 ≤ (y.toNat : Int) ∧ Utf8.encode a0 = ⟨#[x, u, v, y]⟩) := by
  have hv : Utf8.valid a0 = true := by
    unfold Utf8.valid
    simp
    omega
  obtain ⟨n, rfl⟩ := Int.eq_ofNat_of_zero_le (show 0 ≤ a0 by omega)
  unfold Utf8.encode
  rw [if_pos hv]
  simp only [Int.toNat_natCast]
  have hy : 128 ≤ (((UInt8.ofNat (0x80 + n % 64)).toNat : Nat) : Int) := by
    rw [UInt8.toNat_ofNat']
    omega
  by_cases h3 : n < 0x800
  · rw [if_neg (by omega), if_pos h3]
    exact Or.inl ⟨_, _, hy, rfl⟩
  · by_cases h4 : n < 0x10000
    · rw [if_neg (by omega), if_neg h3, if_pos h4]
      exact Or.inr (Or.inl ⟨_, _, _, hy, rfl⟩)
    · rw [if_neg (by omega), if_neg h3, if_neg h4]
      exact Or.inr (Or.inr ⟨_, _, _, _, hy, rfl⟩)
set_option maxRecDepth 100000 in
set_option maxHeartbeats 4000000 in
theorem class_Blank.far1 (a0 : Int) (x y : UInt8) (hE : Utf8.encode a0 = ⟨#[x, y]⟩) (hb : 128 ≤ (y.toNat : Int)) (w : World) (h : 128 ≤ a0) (h1 : a0 ≤ 1114111) (h2 : a0 < 55296 ∨ 57344 ≤ a0) (e1 : (a0 == 65533) = false) :
    Calls Tryd.prog 29 #[.int .i32 a0] w fun e w' => e = .returned (.bool false) ∧ Below w.heap.size w w' := by
  have hw2 : IntKind.i64.wrap 2 = 2 := by decide
  have hw3 : IntKind.i64.wrap (1 + 1) = 2 := by decide
  have hq : ((((({ data := #[9, 10, 12, 32] } : ByteArray)[1]'(by decide)).toNat : Nat) : Int) != (((({ data := #[x, y] } : ByteArray)[1]'(by show 1 < 2; decide)).toNat : Nat) : Int)) = true := by
    rw [bne_iff_ne]
    show (10 : Int) ≠ (y.toNat : Int)
    omega
  have ho : Lib.indexByte [12, 32] (({ data := #[x, y] } : ByteArray)[1]'(by show 1 < 2; decide)) < 0 := by
    rw [class_Blank.ib_none _ _ (by decide) (by show 128 ≤ y.toNat; omega)]
    decide
  have hy : (y.toNat : Int) < 256 := by have := y.toNat_lt; omega
  rcases h2 with h2 | h2
  all_goals
    go_enter Tryd.func29, Tryd.ntmps29
    go_wp2
    go_step3
    go_wp2
    refine wp_loop_rounds 1 ?_
    rw [rounds_succ]
    go_wp2
    go_step3
    go_wp2
    go_quiet (fail)
    go_wp2
    go_quiet ((go_at_call 62; exact class_Blank.quiet_add_same (class_Blank.ib20 _ _ _)))
    go_wp2
    rw [Exit.noGoto_ret]
    go_wp2
    rw [Exit.noGoto_ret]
    go_wp2
    go_ret
    refine ⟨rfl, ?_⟩
    repeat (first | exact Below.refl _ _ | apply class_Blank.bl_drewN)
set_option maxRecDepth 100000 in
set_option maxHeartbeats 4000000 in
theorem class_Blank.far2 (a0 : Int) (x u y : UInt8) (hE : Utf8.encode a0 = ⟨#[x, u, y]⟩) (hb : 128 ≤ (y.toNat : Int)) (w : World) (h : 128 ≤ a0) (h1 : a0 ≤ 1114111) (h2 : a0 < 55296 ∨ 57344 ≤ a0) (e1 : (a0 == 65533) = false) :
    Calls Tryd.prog 29 #[.int .i32 a0] w fun e w' => e = .returned (.bool false) ∧ Below w.heap.size w w' := by
  have hw2 : IntKind.i64.wrap 3 = 3 := by decide
  have hw3 : IntKind.i64.wrap (2 + 1) = 3 := by decide
  have hq : ((((({ data := #[9, 10, 12, 32] } : ByteArray)[2]'(by decide)).toNat : Nat) : Int) != (((({ data := #[x, u, y] } : ByteArray)[2]'(by show 2 < 3; decide)).toNat : Nat) : Int)) = true := by
    rw [bne_iff_ne]
    show (12 : Int) ≠ (y.toNat : Int)
    omega
  have ho : Lib.indexByte [32] (({ data := #[x, u, y] } : ByteArray)[2]'(by show 2 < 3; decide)) < 0 := by
    rw [class_Blank.ib_none _ _ (by decide) (by show 128 ≤ y.toNat; omega)]
    decide
  have hy : (y.toNat : Int) < 256 := by have := y.toNat_lt; omega
  rcases h2 with h2 | h2
  all_goals
    go_enter Tryd.func29, Tryd.ntmps29
    go_wp2
    go_step3
    go_wp2
    refine wp_loop_rounds 1 ?_
    rw [rounds_succ]
    go_wp2
    go_step3
    go_wp2
    go_quiet (fail)
    go_wp2
    go_quiet ((go_at_call 62; exact class_Blank.quiet_add_same (class_Blank.ib20 _ _ _)))
    go_wp2
    rw [Exit.noGoto_ret]
    go_wp2
    rw [Exit.noGoto_ret]
    go_wp2
    go_ret
    refine ⟨rfl, ?_⟩
    repeat (first | exact Below.refl _ _ | apply class_Blank.bl_drewN)
set_option maxRecDepth 100000 in
set_option maxHeartbeats 4000000 in
theorem class_Blank.far3 (a0 : Int) (x u v y : UInt8) (hE : Utf8.encode a0 = ⟨#[x, u, v, y]⟩) (hb : 128 ≤ (y.toNat : Int)) (w : World) (h : 128 ≤ a0) (h1 : a0 ≤ 1114111) (h2 : a0 < 55296 ∨ 57344 ≤ a0) (e1 : (a0 == 65533) = false) :
    Calls Tryd.prog 29 #[.int .i32 a0] w fun e w' => e = .returned (.bool false) ∧ Below w.heap.size w w' := by
  have hw2 : IntKind.i64.wrap 4 = 4 := by decide
  have hw3 : IntKind.i64.wrap (3 + 1) = 4 := by decide
  have hq : ((((({ data := #[9, 10, 12, 32] } : ByteArray)[3]'(by decide)).toNat : Nat) : Int) != (((({ data := #[x, u, v, y] } : ByteArray)[3]'(by show 3 < 4; decide)).toNat : Nat) : Int)) = true := by
    rw [bne_iff_ne]
    show (32 : Int) ≠ (y.toNat : Int)
    omega
  have ho : Lib.indexByte [] (({ data := #[x, u, v, y] } : ByteArray)[3]'(by show 3 < 4; decide)) < 0 := by
    rw [class_Blank.ib_none _ _ (by decide) (by show 128 ≤ y.toNat; omega)]
    decide
  have hy : (y.toNat : Int) < 256 := by have := y.toNat_lt; omega
  rcases h2 with h2 | h2
  all_goals
    go_enter Tryd.func29, Tryd.ntmps29
    go_wp2
    go_step3
    go_wp2
    refine wp_loop_rounds 1 ?_
    rw [rounds_succ]
    go_wp2
    go_step3
    go_wp2
    go_quiet (fail)
    go_wp2
    go_quiet ((go_at_call 62; exact class_Blank.quiet_add_same (class_Blank.ib20 _ _ _)))
    go_wp2
    rw [Exit.noGoto_ret]
    go_wp2
    rw [Exit.noGoto_ret]
    go_wp2
    go_ret
    refine ⟨rfl, ?_⟩
    repeat (first | exact Below.refl _ _ | apply class_Blank.bl_drewN)
set_option maxRecDepth 100000 in
set_option maxHeartbeats 4000000 in
theorem class_Blank.neg (a0 : Int) (w : World) (h : a0 < 0) (h0 : -2147483648 ≤ a0) : Calls Tryd.prog 29 #[.int .i32 a0] w fun e w' => e = .returned (.bool false) ∧ Below w.heap.size w w' := by
  go_enter Tryd.func29, Tryd.ntmps29
  go_wp2
  go_ret
  exact ⟨rfl, Below.refl _ _⟩
set_option maxRecDepth 100000 in
set_option maxHeartbeats 4000000 in
theorem class_Blank.asc (a0 : Int) (w : World) (h : 0 ≤ a0) (h1 : a0 < 128) : Calls Tryd.prog 29 #[.int .i32 a0] w fun e w' => e = .returned (.bool (decide (a0 = 9 ∨ a0 = 10 ∨ a0 = 12 ∨ a0 = 32))) ∧ Below w.heap.size w w' := by
  have hib := class_Blank.ibs
  go_enter Tryd.func29, Tryd.ntmps29
  go_wp2
  go_ret
  refine ⟨class_Blank.ret_bool ?_, Below.refl _ _⟩
  obtain ⟨n, rfl⟩ := Int.eq_ofNat_of_zero_le h
  have hall : ∀ m : Fin 128, decide (0 ≤ Lib.indexByte [9, 10, 12, 32] (((m.val : Nat) : Int)).toNat.toUInt8) = decide (((m.val : Nat) : Int) = 9 ∨ ((m.val : Nat) : Int) = 10 ∨ ((m.val : Nat) : Int) = 12 ∨ ((m.val : Nat) : Int) = 32) := by decide +kernel
  exact hall ⟨n, by omega⟩
set_option maxRecDepth 100000 in
set_option maxHeartbeats 4000000 in
theorem class_Blank.bad (a0 : Int) (w : World) (h : (55296 ≤ a0 ∧ a0 < 57344) ∨ 1114111 < a0) (h1 : a0 ≤ 2147483647) : Calls Tryd.prog 29 #[.int .i32 a0] w fun e w' => e = .returned (.bool false) ∧ Below w.heap.size w w' := by
  have e1 : (a0 == 65533) = false := by simp; omega
  rcases h with ⟨h2, h3⟩ | h2
  all_goals
    go_enter Tryd.func29, Tryd.ntmps29
    go_wp2
    go_ret
    exact ⟨rfl, Below.refl _ _⟩
theorem class_Blank.nx0 (w : World) : (Instr.next (.pointer (some ⟨w.heap.size, 0, none⟩)) true 0).run Tryd.prog (w.iter ⟨#[9, 10, 12, 32]⟩ 0) = .ok (.tuple #[.bool true, .int .i64 0, .int .i32 9]) (w.iter ⟨#[9, 10, 12, 32]⟩ 1) := run_next_ascii w ⟨#[9, 10, 12, 32]⟩ 0 0 (by decide) (by decide)
theorem class_Blank.nx1 (w : World) : (Instr.next (.pointer (some ⟨w.heap.size, 0, none⟩)) true 0).run Tryd.prog (w.iter ⟨#[9, 10, 12, 32]⟩ 1) = .ok (.tuple #[.bool true, .int .i64 1, .int .i32 10]) (w.iter ⟨#[9, 10, 12, 32]⟩ 2) := run_next_ascii w ⟨#[9, 10, 12, 32]⟩ 1 0 (by decide) (by decide)
theorem class_Blank.nx2 (w : World) : (Instr.next (.pointer (some ⟨w.heap.size, 0, none⟩)) true 0).run Tryd.prog (w.iter ⟨#[9, 10, 12, 32]⟩ 2) = .ok (.tuple #[.bool true, .int .i64 2, .int .i32 12]) (w.iter ⟨#[9, 10, 12, 32]⟩ 3) := run_next_ascii w ⟨#[9, 10, 12, 32]⟩ 2 0 (by decide) (by decide)
theorem class_Blank.nx3 (w : World) : (Instr.next (.pointer (some ⟨w.heap.size, 0, none⟩)) true 0).run Tryd.prog (w.iter ⟨#[9, 10, 12, 32]⟩ 3) = .ok (.tuple #[.bool true, .int .i64 3, .int .i32 32]) (w.iter ⟨#[9, 10, 12, 32]⟩ 4) := run_next_ascii w ⟨#[9, 10, 12, 32]⟩ 3 0 (by decide) (by decide)
theorem class_Blank.nx4 (w : World) : (Instr.next (.pointer (some ⟨w.heap.size, 0, none⟩)) true 0).run Tryd.prog (w.iter ⟨#[9, 10, 12, 32]⟩ 4) = .ok (.tuple #[.bool false]) (w.iter ⟨#[9, 10, 12, 32]⟩ 4) := run_next_end w ⟨#[9, 10, 12, 32]⟩ 4 0 (by decide)
set_option maxRecDepth 100000 in
set_option maxHeartbeats 4000000 in
theorem class_Blank.rep (w : World) : Calls Tryd.prog 29 #[.int .i32 65533] w fun e w' => e = .returned (.bool false) ∧ Below w.heap.size w w' := by
  have n0 := class_Blank.nx0 w
  have n1 := class_Blank.nx1 w
  have n2 := class_Blank.nx2 w
  have n3 := class_Blank.nx3 w
  have n4 := class_Blank.nx4 w
  go_enter Tryd.func29, Tryd.ntmps29
  go_wp2
  go_rounds 5
  go_ret
  exact ⟨rfl, class_Blank.bl_iter w _ _⟩
theorem class_Blank.calls (a0 : Int) (r : Bool) (w : World) (h : class_Blank.f a0 = some r) :
    Calls Tryd.prog 29 #[.int .i32 a0] w fun e w' => e = .returned (.bool r) ∧ Below w.heap.size w w' := by
  unfold class_Blank.f at h
  by_cases h0 : -2147483648 ≤ a0
  · rw [if_pos h0] at h
    by_cases h1 : a0 ≤ 2147483647
    · rw [if_pos h1] at h
      obtain rfl := Option.some.inj h
      by_cases c0 : a0 < 0
      · rw [decide_eq_false (by omega)]
        exact class_Blank.neg a0 w c0 h0
      · by_cases c1 : a0 < 128
        · exact class_Blank.asc a0 w (by omega) c1
        · rw [decide_eq_false (by omega)]
          by_cases c2 : a0 = 65533
          · subst c2
            exact class_Blank.rep w
          · by_cases c3 : (55296 ≤ a0 ∧ a0 < 57344) ∨ 1114111 < a0
            · exact class_Blank.bad a0 w c3 h1
            · have e1 : (a0 == 65533) = false := by simpa using c2
              rcases class_Blank.enc_shape a0 (by omega) (by omega) (by omega) with ⟨x, y, hy, hE⟩ | ⟨x, u, y, hy, hE⟩ | ⟨x, u, v, y, hy, hE⟩
              · exact class_Blank.far1 a0 x y hE hy w (by omega) (by omega) (by omega) e1
              · exact class_Blank.far2 a0 x u y hE hy w (by omega) (by omega) (by omega) e1
              · exact class_Blank.far3 a0 x u v y hE hy w (by omega) (by omega) (by omega) e1
    · rw [if_neg h1] at h
      cases h
  · rw [if_neg h0] at h
    cases h

/-! ### decanterlaw03_speaks: function 21 -/
def decanterlaw03_speaks.f  : Option (Bool) := (class_Small.f (⟨#[65, 98, 67]⟩ : ByteArray)).bind fun t101 => (if t101.toList = ([97, 98, 99] : List UInt8) then ((class_Blank.f 32).bind fun t102 => (some t102)) else (some false))
set_option maxHeartbeats 8000000 in
set_option maxRecDepth 100000 in
theorem decanterlaw03_speaks.calls  (r : Bool) (w : World) (h : decanterlaw03_speaks.f  = some r) :
    Calls Tryd.prog 21 #[] w fun e w' => e = .returned (.bool r) ∧ Below w.heap.size w w' := by
  have HB := Aside0.mk (Below.refl w.heap.size w)
  have H : ((class_Small.f (⟨#[65, 98, 67]⟩ : ByteArray)).bind fun t101 => (if t101.toList = ([97, 98, 99] : List UInt8) then ((class_Blank.f 32).bind fun t102 => (some t102)) else (some false))) = some r := h
  clear h
  replace H := Option.bind_eq_some_iff.mp H
  obtain ⟨t101, A10, H⟩ := H
  replace H : (if t101.toList = ([97, 98, 99] : List UInt8) then ((class_Blank.f 32).bind fun t102 => (some t102)) else (some false)) = some r := H
  have A1 := Aside0.mk A10
  clear A10
  by_cases c2 : t101.toList = ([97, 98, 99] : List UInt8)
  · rw [if_pos c2] at H
    have c2b0 : (t101.toList == ([97, 98, 99] : List UInt8)) = true := beq_iff_eq.mpr c2
    have c2b1 : (t101.toList != ([97, 98, 99] : List UInt8)) = false := bne_eq_false_iff_eq.mpr c2
    clear c2
    replace H := Option.bind_eq_some_iff.mp H
    obtain ⟨t102, A30, H⟩ := H
    replace H : (some t102) = some r := H
    have A3 := Aside0.mk A30
    clear A30
    obtain rfl := Option.some.inj H
    go_enter Tryd.func21, Tryd.ntmps21
    go_wp2_with (first | ((with_reducible refine gate_callee (f := 22) rfl ?_); refine goesL_ (some 1) rfl rfl Tryd.func22 (by kernel_rfl) rfl #[.string (⟨#[65, 98, 67]⟩ : ByteArray)] rfl (by (try simp only [List.map_toArray, List.map_cons, List.map_nil]); first | done | rfl | (simp only [List.length_drop, List.length_take]; rfl)) ?_; (with_reducible refine (class_Small.calls (⟨#[65, 98, 67]⟩ : ByteArray) t101 _ A1.out).mono ?_); rintro e w4 ⟨rfl, hb⟩; refine ⟨_, rfl, ?_⟩; have n0_ := Aside0.mk (below_step (by repeat (first | (with_reducible first | exact HB.out | apply below_alloc | apply pw_below_drewN | apply below_drew1) | exact HB.out)) hb); clear HB; have HB := n0_; clear n0_; (try clear hb); (try clear hb2); (try clear hk); (try clear hi)) | (go_at_call 29; (with_reducible refine (class_Blank.calls 32 t102 _ A3.out).mono ?_); rintro e w5 ⟨rfl, hb⟩; have n0_ := Aside0.mk (below_step (by repeat (first | (with_reducible first | exact HB.out | apply below_alloc | apply pw_below_drewN | apply below_drew1) | exact HB.out)) hb); clear HB; have HB := n0_; clear n0_; (try clear hb); (try clear hb2); (try clear hk); (try clear hi)))
    go_ret
    exact ⟨by first | rfl | (simp [errW_none, errW_some] <;> rfl) | (simp [*, errW_none, errW_some] <;> rfl), by repeat (first | (with_reducible first | exact HB.out | apply below_alloc | apply pw_below_drewN | apply below_drew1) | exact HB.out)⟩
  · rw [if_neg c2] at H
    have c2b0 : (t101.toList == ([97, 98, 99] : List UInt8)) = false := beq_eq_false_iff_ne.mpr c2
    have c2b1 : (t101.toList != ([97, 98, 99] : List UInt8)) = true := bne_iff_ne.mpr c2
    obtain rfl := Option.some.inj H
    go_enter Tryd.func21, Tryd.ntmps21
    go_wp2_with (first | ((with_reducible refine gate_callee (f := 22) rfl ?_); refine goesL_ (some 1) rfl rfl Tryd.func22 (by kernel_rfl) rfl #[.string (⟨#[65, 98, 67]⟩ : ByteArray)] rfl (by (try simp only [List.map_toArray, List.map_cons, List.map_nil]); first | done | rfl | (simp only [List.length_drop, List.length_take]; rfl)) ?_; (with_reducible refine (class_Small.calls (⟨#[65, 98, 67]⟩ : ByteArray) t101 _ A1.out).mono ?_); rintro e w6 ⟨rfl, hb⟩; refine ⟨_, rfl, ?_⟩; have n0_ := Aside0.mk (below_step (by repeat (first | (with_reducible first | exact HB.out | apply below_alloc | apply pw_below_drewN | apply below_drew1) | exact HB.out)) hb); clear HB; have HB := n0_; clear n0_; (try clear hb); (try clear hb2); (try clear hk); (try clear hi)))
    go_ret
    exact ⟨by first | rfl | (simp [errW_none, errW_some] <;> rfl) | (simp [*, errW_none, errW_some] <;> rfl), by repeat (first | (with_reducible first | exact HB.out | apply below_alloc | apply pw_below_drewN | apply below_drew1) | exact HB.out)⟩

/-! ### decanterref03_Lower: function 38 -/
def decanterref03_Lower.f (a0 : Int) : Option (Int) := if a0 ≥ 65 then (if a0 ≤ 90 then (some (wrap64 (a0 + 32))) else (some a0)) else (some a0)
set_option maxHeartbeats 8000000 in
set_option maxRecDepth 100000 in
theorem decanterref03_Lower.calls (a0 : Int) (r : Int) (w : World) (h : decanterref03_Lower.f a0 = some r) :
    Calls Tryd.prog 38 #[.int .i64 a0] w fun e w' => e = .returned (.int .i64 r) ∧ Drawn0 w w' := by
  have H : (if a0 ≥ 65 then (if a0 ≤ 90 then (some (wrap64 (a0 + 32))) else (some a0)) else (some a0)) = some r := h
  clear h
  by_cases c2 : a0 ≥ 65
  · rw [if_pos c2] at H
    have c2b0 : decide (65 ≤ a0) = true := decide_eq_true c2
    clear c2
    by_cases c3 : a0 ≤ 90
    · rw [if_pos c3] at H
      have c3b0 : decide (a0 ≤ 90) = true := decide_eq_true c3
      clear c3
      obtain rfl := Option.some.inj H
      go_enter Tryd.func38, Tryd.ntmps38
      go_wp2
      go_ret
      exact ⟨by first | rfl | (simp; done) | (simp [*]; done), by repeat (first | exact Drawn0.refl _ | apply Drawn0.step)⟩
    · rw [if_neg c3] at H
      have c3b0 : decide (a0 ≤ 90) = false := decide_eq_false c3
      clear c3
      obtain rfl := Option.some.inj H
      go_enter Tryd.func38, Tryd.ntmps38
      go_wp2
      go_ret
      exact ⟨by first | rfl | (simp; done) | (simp [*]; done), by repeat (first | exact Drawn0.refl _ | apply Drawn0.step)⟩
  · rw [if_neg c2] at H
    have c2b0 : decide (65 ≤ a0) = false := decide_eq_false c2
    clear c2
    obtain rfl := Option.some.inj H
    go_enter Tryd.func38, Tryd.ntmps38
    go_wp2
    go_ret
    exact ⟨by first | rfl | (simp; done) | (simp [*]; done), by repeat (first | exact Drawn0.refl _ | apply Drawn0.step)⟩

/-! ### decanterref03_Small: function 23 -/
def decanterref03_Small.l0 : Nat → ByteArray → List Int → Int → Option (ByteArray)
  | 0, _, _, _ => none
  | k + 1, x0, x3, x4 => if x4 < (x0.size : Int) then (if 0 ≤ x4 then ((decanterref03_Lower.f (wrap64 (bt x0 x4))).bind fun t106 => (if x3.length < 140737488355328 then (decanterref03_Small.l0 k x0 (x3 ++ [(t106) % 256]) (wrap64 (x4 + 1))) else (none))) else (none)) else (some (strOfNums x3))
def decanterref03_Small.f (k : Nat) (a0 : ByteArray) : Option (ByteArray) := decanterref03_Small.l0 k a0 (([] : List Int)) 0
theorem decanterref03_Small.mono_l : ∀ k, (∀ y0 y1 y2, LeO (decanterref03_Small.l0 k y0 y1 y2) (decanterref03_Small.l0 (k + 1) y0 y1 y2))
  | 0 => fun _ _ _ r h => by simp [decanterref03_Small.l0] at h
  | k + 1 => by
    have ih0 := decanterref03_Small.mono_l k
    · intro y0 y1 y2
      unfold decanterref03_Small.l0
      repeat' first
      | (with_reducible exact ih0 _ _ _)
      | (with_reducible exact LeO.refl _)
      | (with_reducible exact LeO.none _)
      | (with_reducible refine LeO.ite ?_ ?_)
      | (with_reducible refine LeO.bind ?_ (fun _ => ?_))
      | exact ih0 _ _ _
      | exact LeO.none _
      | refine LeO.ite ?_ ?_
      | refine LeO.bind ?_ (fun _ => ?_)
theorem decanterref03_Small.mono : ∀ a0 k, LeO (decanterref03_Small.f k a0) (decanterref03_Small.f (k + 1) a0) := by
  intro a0 k
  have ih0 := decanterref03_Small.mono_l k
  unfold decanterref03_Small.f
  repeat' first
      | (with_reducible exact ih0 _ _ _)
      | (with_reducible exact LeO.refl _)
      | (with_reducible exact LeO.none _)
      | (with_reducible refine LeO.ite ?_ ?_)
      | (with_reducible refine LeO.bind ?_ (fun _ => ?_))
      | exact ih0 _ _ _
      | exact LeO.none _
      | refine LeO.ite ?_ ?_
      | refine LeO.bind ?_ (fun _ => ?_)
set_option maxHeartbeats 8000000 in
set_option maxRecDepth 100000 in
theorem decanterref03_Small.calls (k : Nat) (a0 : ByteArray) (r : ByteArray) (w : World) (h : decanterref03_Small.f k a0 = some r) :
    Calls Tryd.prog 23 #[.string a0] w fun e w' => e = .returned (.string r) ∧ Below w.heap.size w w' := by
  have HB := Aside0.mk (Below.refl w.heap.size w)
  have H : (decanterref03_Small.l0 k a0 (([] : List Int)) 0) = some r := h
  clear h
  obtain ⟨y103, hy103⟩ : ∃ y_ : List Int, y_ = (([] : List Int)) := ⟨_, rfl⟩
  replace H : (decanterref03_Small.l0 k a0 y103 0) = some r := by first | (rw [hy103]; with_reducible exact H) | (have H2_ := (Option.bind_some _ _).symm.trans H; rw [hy103]; with_reducible exact H2_) | (have H2_ := (Option.bind_some _ _).symm.trans H; with_reducible exact H2_) | with_reducible exact H | (rw [hy103]; exact H) | exact H
  have Ny103 := Aside0.mk hy103
  clear hy103
  have H' := Aside0.mk H
  clear H
  go_enter Tryd.func23, Tryd.ntmps23
  go_wp2_with (first | ((with_reducible refine gate_dst (N := 5) rfl ?_); refine Kd.R_lit (Kd.int .u8) _ 5 ?hg (N := 5) ?hd (xs := ([] : List Int)) (inner := []) (ok := fun _ => True) (okp := fun _ => True) ?hr ?hp (fun _ hk => hk) trivial (Below.refl _ _) (Nat.le_refl _) (by simp) ?_; (case hd => rfl); (case hg => rfl); (case hr => first | (go_simp; done) | (go_simp; rfl)); (case hp => exact (Reps.none _ _)); intro v104 w2 ho3 hb hg_ hnew_; clear hg_ hnew_; (first | rw [← Ny103.out] at ho3 | (simp only [Int.reduceToNat] at ho3; rw [← Ny103.out] at ho3)); have n0_ := Aside0.mk (Kd.R_lower ho3 (below_size (by repeat (first | (with_reducible first | exact HB.out | apply below_alloc | apply pw_below_drewN | apply below_drew1) | exact HB.out)))); have n1_ := Aside0.mk (below_step (by repeat (first | (with_reducible first | exact HB.out | apply below_alloc | apply pw_below_drewN | apply below_drew1) | exact HB.out)) hb); clear HB; have HO105 := n0_; have HB := n1_; clear n0_ n1_; clear hb ho3))
  go_loopg [3, 4] k (fun kq v3 v4 w' => ∃ (x3_1 : List Int) (x4_1 : Int), v4 = .int .i64 x4_1 ∧ Aside0 (decanterref03_Small.l0 kq a0 x3_1 x4_1 = some r) ∧ Aside0 (kq ≤ k) ∧ Aside0 (Kd.R (Kd.int .u8) 5 w' w.heap.size (fun _ => True) v3 x3_1) ∧ Aside0 (Below w.heap.size w w'))
  case atStart => exact ⟨(y103), (0), (by first | rfl | (simp; done) | (simp [*]; done)), H', ⟨Nat.le_refl _⟩, ⟨by (with_reducible repeat (first | apply Kd.R_alloc | apply Kd.R_drewN | apply Kd.R_drew)); exact HO105.out⟩, ⟨by repeat (first | (with_reducible first | exact HB.out | apply below_alloc | apply pw_below_drewN | apply below_drew1) | exact HB.out)⟩⟩
  case round =>
    clear H'
    try clear c2
    try clear p2
    obtain ⟨x3_1, x4_1, rfl, HA, HK1, HO_3, HB⟩ := hrel
    cases gk with
    | zero => exact absurd HA.out (by simp [decanterref03_Small.l0])
    | succ k1 =>
      have H := HA.out
      clear HA
      simp only [decanterref03_Small.l0] at H
      by_cases c4 : x4_1 < (a0.size : Int)
      · rw [if_pos c4] at H
        have c4b0 : decide (x4_1 < (a0.size : Int)) = true := decide_eq_true c4
        clear c4
        by_cases c5 : 0 ≤ x4_1
        · rw [if_pos c5] at H
          have c5b0 : decide (0 ≤ x4_1) = true := decide_eq_true c5
          clear c5
          replace H := Option.bind_eq_some_iff.mp H
          obtain ⟨t106, A70, H⟩ := H
          replace H : (if x3_1.length < 140737488355328 then (decanterref03_Small.l0 k1 a0 (x3_1 ++ [(t106) % 256]) (wrap64 (x4_1 + 1))) else (none)) = some r := H
          have A7 := Aside0.mk A70
          clear A70
          by_cases c8 : x3_1.length < 140737488355328
          · rw [if_pos c8] at H
            have LMc8 := Aside0.mk c8
            clear c8
            obtain ⟨y107, hy107⟩ : ∃ y_ : List Int, y_ = (x3_1 ++ [(t106) % 256]) := ⟨_, rfl⟩
            replace H : (decanterref03_Small.l0 k1 a0 y107 (wrap64 (x4_1 + 1))) = some r := by first | (rw [hy107]; with_reducible exact H) | (have H2_ := (Option.bind_some _ _).symm.trans H; rw [hy107]; with_reducible exact H2_) | (have H2_ := (Option.bind_some _ _).symm.trans H; with_reducible exact H2_) | with_reducible exact H | (rw [hy107]; exact H) | exact H
            have Ny107 := Aside0.mk hy107
            clear hy107
            have H' := Aside0.mk H
            clear H
            have p6 : 0 ≤ (x4_1 : Int) := of_decide_eq_true (by first | (with_reducible assumption) | assumption)
            have q6 : x4_1 < (a0.size : Int) := of_decide_eq_true (by first | (with_reducible assumption) | assumption)
            have hx6 := bt_at a0 x4_1
            replace p6 := eq_true p6
            replace q6 := eq_true q6
            go_wp2_with (first | ((with_reducible refine gate_callee (f := 38) rfl ?_); refine goesL_ (some 17) rfl rfl Tryd.func38 (by kernel_rfl) rfl #[.int .i64 (wrap64 (bt a0 x4_1))] rfl (by (try simp only [List.map_toArray, List.map_cons, List.map_nil]); first | done | rfl | (simp only [List.length_drop, List.length_take]; rfl)) ?_; (with_reducible refine (decanterref03_Lower.calls (wrap64 (bt a0 x4_1)) t106 _ A7.out).mono ?_); rintro e w' ⟨rfl, ⟨nd, rfl⟩⟩; refine ⟨_, rfl, ?_⟩) | ((with_reducible refine gate_builtin (b := .append) (xs := #[.tmp 12, .tmp 19]) rfl ?_); at_builtin; refine Kd.R_append (Kd.int .u8) (w0 := w) w.heap.size rfl (.tmp 12) (.tmp 19) 22 5 (.int .u8 0) 1 rfl Tryd.underlying22 info5 rfl (by decide) (by omega) u3 x3_1 ((t106) % 256) [.int .u8 ((t106) % 256)] (fun _ => True) (fun _ => False) rfl rfl ?aP (fun _ hk => hk.elim) ?aF ?aO ?aB ?aS ?aL ?_; (case aP => exact rfl); (case aB => exact (by repeat (first | (with_reducible first | exact HB.out | apply below_alloc | apply pw_below_drewN | apply below_drew1) | exact HB.out))); (case aF => exact (fun _ _ => trivial)); (case aO => exact (by (with_reducible repeat (first | apply Kd.R_alloc | apply Kd.R_drewN | apply Kd.R_drew)); exact HO_3.out)); (case aS => exact (below_size (by repeat (first | (with_reducible first | exact HB.out | apply below_alloc | apply pw_below_drewN | apply below_drew1) | exact HB.out)))); (case aL => have := LMc8.out; omega); intro v108 w9 ho hb hg hat; rw [← Ny107.out] at ho; have n0_ := Aside0.mk (hb); have n1_ := Aside0.mk (ho); clear HB; clear HO_3; have HB := n0_; have HO109 := n1_; clear n0_ n1_; clear ho hb hg hat))
            go_roundg k1
            case measure => have := HK1.out; omega
            case rel => exact ⟨(y107), (wrap64 (x4_1 + 1)), (by first | rfl | (simp; done) | (simp [*]; done)), H', ⟨by have := HK1.out; omega⟩, ⟨by (with_reducible repeat (first | apply Kd.R_alloc | apply Kd.R_drewN | apply Kd.R_drew)); exact HO109.out⟩, ⟨by repeat (first | (with_reducible first | exact HB.out | apply below_alloc | apply pw_below_drewN | apply below_drew1) | exact HB.out)⟩⟩
          · rw [if_neg c8] at H
            exact absurd H (by simp)
        · rw [if_neg c5] at H
          exact absurd H (by simp)
      · rw [if_neg c4] at H
        have c4b0 : decide (x4_1 < (a0.size : Int)) = false := decide_eq_false c4
        clear c4
        obtain rfl := Option.some.inj H
        have hcv10 := own_string (P := Tryd.prog) Tryd.underlying22 Tryd.underlying5 Tryd.underlying9 (Kd.own_of_R HO_3.out)
        go_wp2
        go_ret
        exact ⟨by first | rfl | (simp [errW_none, errW_some] <;> rfl) | (simp [*, errW_none, errW_some] <;> rfl), by repeat (first | (with_reducible first | exact HB.out | apply below_alloc | apply pw_below_drewN | apply below_drew1) | exact HB.out)⟩

/-! ### class_Trim: function 24 -/
def class_Trim.cut : List UInt8 := [9, 10, 12, 32]
def class_Trim.blank (b : UInt8) : Bool := class_Trim.cut.contains b
def class_Trim.left (s : ByteArray) (i : Nat) : ByteArray := s.extract i s.size
/-- What is trimmed at the front: the blanks that stand there. -/
def class_Trim.dropL : List UInt8 → List UInt8
  | [] => []
  | b :: l => if class_Trim.blank b then class_Trim.dropL l else b :: l
def class_Trim.dropR (l : List UInt8) : List UInt8 := (class_Trim.dropL l.reverse).reverse
theorem class_Trim.dropL_at (l : List UInt8) (b : UInt8) (t : List UInt8) (h : l = b :: t) : class_Trim.dropL l = if class_Trim.blank b then class_Trim.dropL t else l := by subst h; rfl
theorem class_Trim.dropR_at (l : List UInt8) (b : UInt8) (t : List UInt8) (h : l = t ++ [b]) : class_Trim.dropR l = if class_Trim.blank b then class_Trim.dropR t else l := by
  subst h
  unfold class_Trim.dropR
  rw [List.reverse_append]
  show (class_Trim.dropL (b :: t.reverse)).reverse = _
  rw [class_Trim.dropL]
  split
  · rfl
  · simp
theorem class_Trim.set_cell (w : World) (g : Nat) (t : TypeId) (fz : Nat × Nat) (hg : w.heap[g]? = some (.cells (Lib.setCells class_Trim.cut) t fz)) (x : UInt8) : w.cell? ⟨g, x.toNat, none⟩ = some (.bool (class_Trim.blank x)) :=
  cell_of_row w g x.toNat _ t fz hg |>.trans (Lib.setCells_at class_Trim.cut x)
theorem class_Trim.ext_size (s : ByteArray) (i j : Nat) (hij : i ≤ j) (hj : j ≤ s.size) : (s.extract i j).size = j - i := by rw [ByteArray.size_extract]; omega
theorem class_Trim.ext_list (s : ByteArray) (i j : Nat) : (s.extract i j).data.toList = (s.data.toList.drop i).take (j - i) := Lib.extract_data s i j
set_option maxRecDepth 100000 in
set_option maxHeartbeats 2000000 in
theorem class_Trim.left_any (s : ByteArray) (g : Nat) (t0 : TypeId) (fz : Nat × Nat) (w : World) (hg : w.heap[g]? = some (.cells (Lib.setCells class_Trim.cut) t0 fz)) :
    Calls Tryd.prog 52 #[.string s, .pointer (some ⟨g, 0, none⟩)] w fun e w' => e = .returned (.string ⟨(class_Trim.dropL s.data.toList).toArray⟩) ∧ w' = w := by
  have hset := Lib.hid (class_Trim.set_cell w g t0 fz hg)
  clear hg
  go_enter Tryd.func52, Tryd.ntmps52
  go_wp2
  go_loop [0] (fun v => ∃ t : ByteArray, v = .string t ∧ Lib.Kept (class_Trim.dropL t.data.toList = class_Trim.dropL s.data.toList)) (fun v => Lib.strSize v)
  case atStart => exact ⟨s, rfl, rfl⟩
  case round =>
    obtain ⟨t, rfl, hK⟩ := hrel
    by_cases h0 : 0 < t.size
    · have hc := hset.out (t[0]'h0)
      have hl : t.data.toList = t[0]'h0 :: (t.extract 1 t.size).data.toList := by
        rw [Lib.extract_to_end]
        have hs : 0 < t.data.toList.length := by rw [Array.length_toList]; exact h0
        have := List.drop_eq_getElem_cons hs
        rw [List.drop_zero] at this
        rw [this]
        simp
        rfl
      have hd := class_Trim.dropL_at _ _ _ hl
      have HD : Lib.Kept (class_Trim.dropL t.data.toList = if class_Trim.blank (t[0]'h0) then class_Trim.dropL (t.extract 1 t.size).data.toList else t.data.toList) := hd
      clear hd hl
      cases hb : class_Trim.blank (t[0]'h0) with
      | true =>
        rw [hb] at hc
        have HB : Lib.Kept (class_Trim.blank (t[0]'h0) = true) := hb
        clear hb
        go_wp2_with (go_at_call 59; refine (Tryd.asciiSet_contains g (t[0]'h0) true _ hc).mono ?_; rintro e w' ⟨rfl, rfl⟩)
        refine ⟨⟨_, rfl, ?_⟩, ?_⟩
        · have h1 : class_Trim.dropL t.data.toList = if class_Trim.blank (t[0]'h0) then class_Trim.dropL (t.extract 1 t.size).data.toList else t.data.toList := HD
          have h2 : class_Trim.blank (t[0]'h0) = true := HB
          rw [h2, if_pos rfl] at h1
          exact h1.symm.trans hK
        · rw [Lib.strSize_string, Lib.strSize_string, ByteArray.size_extract]
          omega
      | false =>
        rw [hb] at hc
        have HB : Lib.Kept (class_Trim.blank (t[0]'h0) = false) := hb
        clear hb
        go_wp2_with (go_at_call 59; refine (Tryd.asciiSet_contains g (t[0]'h0) false _ hc).mono ?_; rintro e w' ⟨rfl, rfl⟩)
        go_ret
        refine ⟨?_, rfl⟩
        have h1 : class_Trim.dropL t.data.toList = if class_Trim.blank (t[0]'h0) then class_Trim.dropL (t.extract 1 t.size).data.toList else t.data.toList := HD
        have h2 : class_Trim.blank (t[0]'h0) = false := HB
        rw [h2, if_neg (by decide)] at h1
        rw [← show class_Trim.dropL t.data.toList = class_Trim.dropL s.data.toList from hK, h1]
        rfl
    · go_wp2
      go_ret
      refine ⟨?_, rfl⟩
      have h1 : t.data.toList = [] := List.eq_nil_of_length_eq_zero (by rw [Array.length_toList]; show t.size = 0; omega)
      rw [← show class_Trim.dropL t.data.toList = class_Trim.dropL s.data.toList from hK, h1]
      show Ending.returned (Value.string t) = Ending.returned (.string ⟨([] : List UInt8).toArray⟩)
      rw [show t = ⟨([] : List UInt8).toArray⟩ from by rw [← h1]]
set_option maxRecDepth 100000 in
set_option maxHeartbeats 2000000 in
theorem class_Trim.right_any (s : ByteArray) (hs : s.size ≤ 9223372036854775807) (g : Nat) (t0 : TypeId) (fz : Nat × Nat) (w : World) (hg : w.heap[g]? = some (.cells (Lib.setCells class_Trim.cut) t0 fz)) :
    Calls Tryd.prog 53 #[.string s, .pointer (some ⟨g, 0, none⟩)] w fun e w' => e = .returned (.string ⟨(class_Trim.dropR s.data.toList).toArray⟩) ∧ w' = w := by
  have hset := Lib.hid (class_Trim.set_cell w g t0 fz hg)
  clear hg
  go_enter Tryd.func53, Tryd.ntmps53
  go_wp2
  go_loop [0] (fun v => ∃ t : ByteArray, v = .string t ∧ t.size ≤ 9223372036854775807 ∧ Lib.Kept (class_Trim.dropR t.data.toList = class_Trim.dropR s.data.toList)) (fun v => Lib.strSize v)
  case atStart => exact ⟨s, rfl, hs, rfl⟩
  case round =>
    obtain ⟨t, rfl, hz, hK⟩ := hrel
    by_cases h0 : 0 < t.size
    · obtain ⟨m, hm⟩ : ∃ m, t.size = m + 1 := ⟨t.size - 1, by omega⟩
      have h1 : m < t.size := by omega
      have hc := hset.out (t[m]'h1)
      have hl : t.data.toList = (t.extract 0 m).data.toList ++ [t[m]'h1] := by
        rw [Lib.extract_data, List.drop_zero, Nat.sub_zero]
        have hs : m < t.data.toList.length := by rw [Array.length_toList]; exact h1
        have := List.take_succ_eq_append_getElem hs
        rw [List.take_of_length_le (by rw [Array.length_toList]; show t.size ≤ _; omega)] at this
        exact this.trans (congrArg (fun z => List.take m t.data.toList ++ [z]) (Array.getElem_toList ..))
      have hd := class_Trim.dropR_at _ _ _ hl
      have HD : Lib.Kept (class_Trim.dropR t.data.toList = if class_Trim.blank (t[m]'h1) then class_Trim.dropR (t.extract 0 m).data.toList else t.data.toList) := hd
      clear hd hl
      have e1 : (t.size : Int) - 1 = (m : Int) := by omega
      have HM : Lib.Kept (t.size = m + 1) := hm
      cases hb : class_Trim.blank (t[m]'h1) with
      | true =>
        rw [hb] at hc
        have HB : Lib.Kept (class_Trim.blank (t[m]'h1) = true) := hb
        clear hb
        go_wp2_with (go_at_call 59; refine (Tryd.asciiSet_contains g (t[m]'h1) true _ hc).mono ?_; rintro e w' ⟨rfl, rfl⟩)
        refine ⟨⟨_, rfl, by rw [ByteArray.size_extract]; omega, ?_⟩, ?_⟩
        · have h1 : class_Trim.dropR t.data.toList = if class_Trim.blank (t[m]'h1) then class_Trim.dropR (t.extract 0 m).data.toList else t.data.toList := HD
          have h2 : class_Trim.blank (t[m]'_) = true := HB
          rw [h2, if_pos rfl] at h1
          exact h1.symm.trans hK
        · rw [Lib.strSize_string, Lib.strSize_string, ByteArray.size_extract]
          omega
      | false =>
        rw [hb] at hc
        have HB : Lib.Kept (class_Trim.blank (t[m]'h1) = false) := hb
        clear hb
        go_wp2_with (go_at_call 59; refine (Tryd.asciiSet_contains g (t[m]'h1) false _ hc).mono ?_; rintro e w' ⟨rfl, rfl⟩)
        go_ret
        refine ⟨?_, rfl⟩
        have h1 : class_Trim.dropR t.data.toList = if class_Trim.blank (t[m]'h1) then class_Trim.dropR (t.extract 0 m).data.toList else t.data.toList := HD
        have h2 : class_Trim.blank (t[m]'_) = false := HB
        rw [h2, if_neg (by decide)] at h1
        rw [← show class_Trim.dropR t.data.toList = class_Trim.dropR s.data.toList from hK, h1]
        rfl
    · go_wp2
      go_ret
      refine ⟨?_, rfl⟩
      have h1 : t.data.toList = [] := List.eq_nil_of_length_eq_zero (by rw [Array.length_toList]; show t.size = 0; omega)
      rw [← show class_Trim.dropR t.data.toList = class_Trim.dropR s.data.toList from hK, h1]
      show Ending.returned (Value.string t) = Ending.returned (.string ⟨([] : List UInt8).toArray⟩)
      rw [show t = ⟨([] : List UInt8).toArray⟩ from by rw [← h1]]
set_option maxRecDepth 100000 in
set_option maxHeartbeats 2000000 in
theorem class_Trim.lib_any (s : ByteArray) (hs : s.size ≤ 9223372036854775807) (w : World) :
    Calls Tryd.prog 39 #[.string s, .string ⟨#[9, 10, 12, 32]⟩] w fun e w' => e = .returned (.string ⟨(class_Trim.dropL (class_Trim.dropR s.data.toList)).toArray⟩) ∧ Below w.heap.size w w' := by
  have hm := Tryd.strings_makeASCIISet (fun w => by kernel_rfl) ⟨#[9, 10, 12, 32]⟩
  have ha : ∀ (j : Nat) (b : UInt8), ([9, 10, 12, 32] : List UInt8)[j]? = some b → b.toNat < 128 := fun j b hj => by
    have hmem := List.mem_of_getElem? hj
    simp only [List.mem_cons, List.mem_nil_iff, or_false] at hmem
    rcases hmem with rfl | rfl | rfl | rfl <;> decide
  have hh : ∀ (A Z : Obj), ((w.alloc A).alloc Z).heap[w.heap.size + 1]? = some Z := fun A Z => by
    have := heap_alloc_new (w.alloc A) Z
    rw [World.size_alloc] at this
    exact this
  have hb : ∀ (A Z : Obj) (cs : Array Value), Below w.heap.size w ((((w.alloc A).alloc Z).setRow (w.heap.size + 1) cs)) := fun A Z cs =>
    below_setRow (((Below.refl _ _).alloc (Nat.le_refl _) _).alloc (by rw [World.size_alloc]; omega) _) (by omega) cs
  have hr : ∀ (A : Obj) (old cs : Array Value), ((((w.alloc A).alloc (.cells old 70)).setRow (w.heap.size + 1) cs)).heap[w.heap.size + 1]? = some (.cells cs 70 (0, 0)) := fun A old cs => setRow_heap _ _ old cs _ _ (hh _ _)
  have hi : (Tryd.prog.info? 70).map (·.size) = some (Lib.setCells class_Trim.cut).size := by rw [Lib.setCells_size]; kernel_rfl
  have ho : Tryd.zeroCells70.size = (Lib.setCells class_Trim.cut).size := by rw [Lib.setCells_size]; kernel_rfl
  have hR := Lib.hid hr
  have hB := Lib.hid hb
  have hH := Lib.hid hh
  have hI := Lib.hid hi
  have hO := Lib.hid ho
  clear hr hb hh hi ho
  have hz2 : (⟨(class_Trim.dropR s.data.toList).toArray⟩ : ByteArray).data.toList = class_Trim.dropR s.data.toList := rfl
  have HZ := Lib.hid hz2
  clear hz2
  go_enter Tryd.func39, Tryd.ntmps39
  go_wp2_with (first | (go_at_call 51; refine (hm _ (by decide) ha).mono ?_; rintro e w' ⟨rfl, rfl⟩) | (refine wpList_store_row rfl 70 _ _ rfl (w.heap.size + 1) (Lib.setCells class_Trim.cut) rfl rfl 70 _ (hH.out _ _) hI.out hO.out (Lib.setCells_one _) ?_) | (go_at_call 53; refine (class_Trim.right_any s hs (w.heap.size + 1) _ _ _ (hR.out _ _ _)).mono ?_; rintro e w' ⟨rfl, rfl⟩) | (go_at_call 52; refine (class_Trim.left_any _ (w.heap.size + 1) _ _ _ (hR.out _ _ _)).mono ?_; rintro e w' ⟨rfl, rfl⟩))
  · have hl : s.data.toList = [] := by rw [← Lib.toList_data]; assumption
    go_ret
    refine ⟨?_, Below.refl _ _⟩
    rw [hl]
    show Ending.returned (Value.string s) = Ending.returned (.string ⟨([] : List UInt8).toArray⟩)
    rw [show s = ⟨([] : List UInt8).toArray⟩ from by rw [← hl]]
  · exfalso
    have h1 : ¬ s.toList = [] := by assumption
    have h2 : s.toList.isEmpty = true := by assumption
    exact h1 (by simpa using h2)
  · go_ret
    exact ⟨rfl, hB.out _ _ _⟩
def class_Trim.f (a0 : ByteArray) : Option ByteArray := if a0.size ≤ 9223372036854775807 then some ⟨(class_Trim.dropL (class_Trim.dropR a0.data.toList)).toArray⟩ else none
set_option maxRecDepth 100000 in
theorem class_Trim.calls (a0 : ByteArray) (r : ByteArray) (w : World) (h : class_Trim.f a0 = some r) :
    Calls Tryd.prog 24 #[.string a0] w fun e w' => e = .returned (.string r) ∧ Below w.heap.size w w' := by
  unfold class_Trim.f at h
  by_cases hs : a0.size ≤ 9223372036854775807
  · rw [if_pos hs] at h
    obtain rfl := Option.some.inj h
    go_enter Tryd.func24, Tryd.ntmps24
    go_wp2_with (go_at_call 39; refine (class_Trim.lib_any a0 hs _).mono ?_; rintro e w1 ⟨rfl, hb⟩)
    go_ret
    exact ⟨rfl, hb⟩
  · rw [if_neg hs] at h
    cases h

/-! ### decanterref03_Blank: function 40 -/
def decanterref03_Blank.f (a0 : Int) : Option (Bool) := if a0 = 9 then (some true) else (if a0 = 10 then (some true) else (if a0 = 12 then (some true) else (some (a0 == 32))))
set_option maxHeartbeats 8000000 in
set_option maxRecDepth 100000 in
theorem decanterref03_Blank.calls (a0 : Int) (r : Bool) (w : World) (h : decanterref03_Blank.f a0 = some r) :
    Calls Tryd.prog 40 #[.int .i64 a0] w fun e w' => e = .returned (.bool r) ∧ Drawn0 w w' := by
  have H : (if a0 = 9 then (some true) else (if a0 = 10 then (some true) else (if a0 = 12 then (some true) else (some (a0 == 32))))) = some r := h
  clear h
  by_cases c2 : a0 = 9
  · rw [if_pos c2] at H
    have c2b0 : (a0 == 9) = true := beq_iff_eq.mpr c2
    have c2b1 : (a0 != 9) = false := bne_eq_false_iff_eq.mpr c2
    clear c2
    obtain rfl := Option.some.inj H
    go_enter Tryd.func40, Tryd.ntmps40
    go_wp2
    go_ret
    exact ⟨by first | rfl | (simp; done) | (simp [*]; done), by repeat (first | exact Drawn0.refl _ | apply Drawn0.step)⟩
  · rw [if_neg c2] at H
    have c2b0 : (a0 == 9) = false := beq_eq_false_iff_ne.mpr c2
    have c2b1 : (a0 != 9) = true := bne_iff_ne.mpr c2
    by_cases c3 : a0 = 10
    · rw [if_pos c3] at H
      have c3b0 : (a0 == 10) = true := beq_iff_eq.mpr c3
      have c3b1 : (a0 != 10) = false := bne_eq_false_iff_eq.mpr c3
      clear c3
      obtain rfl := Option.some.inj H
      go_enter Tryd.func40, Tryd.ntmps40
      go_wp2
      go_ret
      exact ⟨by first | rfl | (simp; done) | (simp [*]; done), by repeat (first | exact Drawn0.refl _ | apply Drawn0.step)⟩
    · rw [if_neg c3] at H
      have c3b0 : (a0 == 10) = false := beq_eq_false_iff_ne.mpr c3
      have c3b1 : (a0 != 10) = true := bne_iff_ne.mpr c3
      by_cases c4 : a0 = 12
      · rw [if_pos c4] at H
        have c4b0 : (a0 == 12) = true := beq_iff_eq.mpr c4
        have c4b1 : (a0 != 12) = false := bne_eq_false_iff_eq.mpr c4
        clear c4
        obtain rfl := Option.some.inj H
        go_enter Tryd.func40, Tryd.ntmps40
        go_wp2
        go_ret
        exact ⟨by first | rfl | (simp; done) | (simp [*]; done), by repeat (first | exact Drawn0.refl _ | apply Drawn0.step)⟩
      · rw [if_neg c4] at H
        have c4b0 : (a0 == 12) = false := beq_eq_false_iff_ne.mpr c4
        have c4b1 : (a0 != 12) = true := bne_iff_ne.mpr c4
        obtain rfl := Option.some.inj H
        go_enter Tryd.func40, Tryd.ntmps40
        go_wp2
        go_ret
        exact ⟨by first | rfl | (simp; done) | (simp [*]; done), by repeat (first | exact Drawn0.refl _ | apply Drawn0.step)⟩

end Go.Proofs.YtinjbabmpnljoaaDoor.PClassT
