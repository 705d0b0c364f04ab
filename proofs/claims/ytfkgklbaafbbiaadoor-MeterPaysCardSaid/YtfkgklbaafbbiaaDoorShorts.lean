/-
  MeterShorts: the text of a Short, and the law's own walk.
-/
import Derived.Test.YtfkgklbaafbbiaaDoorPMeterx1
import Derived.Lib.ItoaLen
import Derived.Lib.Hide
import Derived.Handy
import Derived.Deep.RegionWith
namespace Go.Proofs.YtfkgklbaafbbiaaDoor.Shorts
open Go.RowKit Go.Proofs.YtfkgklbaafbbiaaDoor.PMeter Go.Proofs.YtfkgklbaafbbiaaDoorW.PrintWords Go.Proofs.YtfkgklbaafbbiaaDoorW.PrintLast

def I64 (x : Int) : Prop := -9223372036854775808 ≤ x ∧ x ≤ 9223372036854775807
def tx (x : Int) : ByteArray := ⟨(Lib.itoa x).toArray⟩
def of_ : ByteArray := ⟨#[32, 111, 102, 32]⟩
theorem tx_size (x : Int) (h : I64 x) : (tx x).size ≤ 21 := by
  have := Lib.itoa_length_le x h.1 h.2
  show ((Lib.itoa x).toArray).size ≤ 21
  rw [List.size_toArray]
  exact this
theorem below_all {W w1 w2 : World} (h : Below W.heap.size W w1) (k : Below w1.heap.size w1 w2) : Below W.heap.size W w2 := h.trans (k.mono h.size)
theorem cellk {W w1 : World} {p : Addr} {v : Value} (h : Below W.heap.size W w1) (hc : W.cell? p = some v) : w1.cell? p = some v := (h.cell (World.block_lt_of_cell? _ _ hc)).trans hc
theorem itoa_calls (x : Int) (h : I64 x) (w : World) (hW : Wok w) : Calls Tryd.prog 33 #[.int .i64 x] w fun e w' => e = .returned (.string (tx x)) ∧ Below w.heap.size w w' :=
  strconv_Itoa.calls x (tx x) w hW (by unfold strconv_Itoa.f; rw [if_pos (show -9223372036854775808 ≤ x ∧ x ≤ 9223372036854775807 from h)]; rfl)
set_option maxRecDepth 100000 in
set_option maxHeartbeats 4000000 in
theorem error_any (x y : Int) (hx : I64 x) (hy : I64 y) (g : Nat) (w : World) (hW : Wok w) (h0 : w.cell? ⟨g, 0, none⟩ = some (.int .i64 x)) (h1 : w.cell? ⟨g, 1, none⟩ = some (.int .i64 y)) :
    Calls Tryd.prog 22 #[.pointer (some ⟨g, 0, none⟩)] w fun e w' => e = .returned (.string (tx x ++ of_ ++ tx y)) ∧ Below w.heap.size w w' := by
  have HX := Lib.hid hx
  have HY := Lib.hid hy
  have HW := Lib.hid hW
  have s1 : (tx x).size + 4 ≤ 9223372036854775807 := by have := tx_size x hx; omega
  have s2 : (tx x).size + 4 + (tx y).size ≤ 9223372036854775807 := by have := tx_size x hx; have := tx_size y hy; omega
  clear hx hy hW
  unfold of_
  generalize hX : tx x = X at *
  generalize hY : tx y = Y at *
  have HXx := Lib.hid hX
  have HYy := Lib.hid hY
  clear hX hY
  have H0 := Lib.hid h0
  have H1 := Lib.hid h1
  have hdw : Wok w.drew := HW.out
  have HWd := Lib.hid hdw
  have hd0 : w.drew.cell? ⟨g, 0, none⟩ = some (.int .i64 x) := by rw [World.cell?_drew]; exact h0
  have hd1 : w.drew.cell? ⟨g, 1, none⟩ = some (.int .i64 y) := by rw [World.cell?_drew]; exact h1
  have H0d := Lib.hid hd0
  have H1d := Lib.hid hd1
  clear hdw
  go_enter Tryd.func22, Tryd.ntmps22
  go_wp2_with fail
  have CX : ∀ W, Wok W → Calls Tryd.prog 33 #[.int .i64 x] W fun e w' => e = .returned (.string X) ∧ Below W.heap.size W w' := fun W hW => by rw [← HXx.out]; exact itoa_calls x HX.out W hW
  have CY : ∀ W, Wok W → Calls Tryd.prog 33 #[.int .i64 y] W fun e w' => e = .returned (.string Y) ∧ Below W.heap.size W w' := fun W hW => by rw [← HYy.out]; exact itoa_calls y HY.out W hW
  have hc0 := Lib.hid CX
  have hc1 := Lib.hid CY
  clear CX CY
  go_region_with (first | (go_at_call 33; refine (hc0.out _ HWd.out).mono ?_; rintro e w1 ⟨rfl, hb1⟩; have h0a := cellk hb1 H0d.out; have h1a := cellk hb1 H1d.out; have HWa := Lib.hid (Wok_below HWd.out hb1); have HB1 := Lib.hid hb1; clear hb1) | (go_at_call 33; refine (hc1.out _ HWa.out).mono ?_; rintro e w2 ⟨rfl, hb2⟩))
  all_goals (go_wp2; go_ret; exact ⟨rfl, (Below.drew (Below.refl w.heap.size w)).trans (below_all HB1.out hb2)⟩)
theorem two_cells (w : World) (u v x y : Value) (t : TypeId) :
    let W := (w.alloc (.cells #[u, v] t)).alloc (.cells #[x, y] t)
    W.cell? ⟨w.heap.size, 0, none⟩ = some u ∧ W.cell? ⟨w.heap.size, 1, none⟩ = some v ∧ W.cell? ⟨w.heap.size + 1, 0, none⟩ = some x ∧ W.cell? ⟨w.heap.size + 1, 1, none⟩ = some y ∧ Below w.heap.size w W := by
  intro W
  have h0 : W.heap[w.heap.size]? = some (.cells #[u, v] t (0, 0)) := by
    rw [Below.heap_alloc _ _ _ (by rw [World.size_alloc]; omega)]
    exact heap_alloc_new _ _
  have h1 : W.heap[w.heap.size + 1]? = some (.cells #[x, y] t (0, 0)) := by
    have := heap_alloc_new (w.alloc (.cells #[u, v] t)) (.cells #[x, y] t)
    rw [World.size_alloc] at this
    exact this
  exact ⟨cell_of_row W _ 0 _ _ _ h0, cell_of_row W _ 1 _ _ _ h0, cell_of_row W _ 0 _ _ _ h1, cell_of_row W _ 1 _ _ _ h1, ((Below.refl _ _).alloc (Nat.le_refl _) _).alloc (by rw [World.size_alloc]; omega) _⟩
/-- What the walk is told of the texts. -/
structure Told (a b c d : Int) : Prop where
  same : (tx a ++ of_ ++ tx b).toList = (tx c ++ of_ ++ tx d).toList ↔ a = c ∧ b = d
  dec : ∃ k, decanterref01_Decimal.f k a = some (tx a) ∧ decanterref01_Decimal.f k b = some (tx b)
set_option maxRecDepth 100000 in
set_option maxHeartbeats 4000000 in
theorem walk (a b c d : Int) (ha : I64 a) (hb : I64 b) (hc : I64 c) (hd : I64 d) (T : Told a b c d) (w : World) (hW : Wok w) :
    Calls Tryd.prog 6 #[.int .i64 a, .int .i64 b, .int .i64 c, .int .i64 d] w fun e w' => e = .returned (.bool true) ∧ Below w.heap.size w w' := by
  have sp := fun w => decanterlaw01_speaks.calls true w rfl
  obtain ⟨k, hk1, hk2⟩ := T.dec
  have hsame := T.same
  have DA := fun w => decanterref01_Decimal.calls k a (tx a) w hk1
  have DB := fun w => decanterref01_Decimal.calls k b (tx b) w hk2
  have EA := fun g w hW h0 h1 => error_any a b ha hb g w hW h0 h1
  have EC := fun g w hW h0 h1 => error_any c d hc hd g w hW h0 h1
  have z1 : (tx a).size + 4 ≤ 9223372036854775807 := by have := tx_size a ha; omega
  have z2 : (tx a).size + 4 + (tx b).size ≤ 9223372036854775807 := by have := tx_size a ha; have := tx_size b hb; omega
  unfold of_ at *
  generalize tx a = A at *
  generalize tx b = B at *
  generalize tx c = C at *
  generalize tx d = D at *
  have HS := Lib.hid hsame
  have HDA := Lib.hid DA
  have HDB := Lib.hid DB
  have HEA := Lib.hid EA
  have HEC := Lib.hid EC
  have HW := Lib.hid hW
  clear T hk1 hk2 hsame DA DB EA EC ha hb hc hd hW
  by_cases h1 : a = c
  · subst h1
    by_cases h2 : b = d
    · subst h2
      have e1 : (A ++ (⟨#[32, 111, 102, 32]⟩ : ByteArray) ++ B).toList = (C ++ (⟨#[32, 111, 102, 32]⟩ : ByteArray) ++ D).toList := HS.out.2 ⟨rfl, rfl⟩
      have E1 := Lib.hid e1
      clear e1
      go_enter Tryd.func6, Tryd.ntmps6
      go_wp2_with (go_at_call 15; refine (sp _).mono ?_; rintro e w1 ⟨rfl, hb1⟩)
      obtain ⟨q0, q1, q2, q3, qb⟩ := two_cells w1 (.int .i64 a) (.int .i64 b) (.int .i64 a) (.int .i64 b) 61
      have Q := Lib.hid (below_all hb1 qb)
      refine (HEA.out _ _ (Wok_below HW.out Q.out) q0 q1).mono ?_
      rintro e w2 ⟨rfl, hb2⟩
      have r0 := Lib.hid (cellk hb2 q0)
      have r1 := Lib.hid (cellk hb2 q1)
      have r2 := Lib.hid (cellk hb2 q2)
      have r3 := Lib.hid (cellk hb2 q3)
      have B2 := Lib.hid (below_all Q.out hb2)
      clear q0 q1 q2 q3 qb hb1 hb2 Q
      go_wp2_with fail
      refine (HEC.out _ _ (Wok_below HW.out B2.out) r2.out r3.out).mono ?_
      rintro e w3 ⟨rfl, hb3⟩
      have t0 := Lib.hid (cellk hb3 r0.out)
      have t1 := Lib.hid (cellk hb3 r1.out)
      have B3 := Lib.hid (below_all B2.out hb3)
      clear r0 r1 r2 r3 B2 hb3
      have e1 := E1.out
      go_wp2_with fail
      refine (HEA.out _ _ (Wok_below HW.out B3.out) t0.out t1.out).mono ?_
      rintro e w4 ⟨rfl, hb4⟩
      have B4 := Lib.hid (below_all B3.out hb4)
      clear t0 t1 B3 hb4
      go_wp2_with fail
      refine (HDA.out _).mono ?_
      rintro e w5 ⟨rfl, hb5⟩
      have B5 := Lib.hid (below_all B4.out hb5)
      clear B4 hb5
      go_wp2_with fail
      refine (HDB.out _).mono ?_
      rintro e w6 ⟨rfl, hb6⟩
      have B6 := Lib.hid (below_all B5.out hb6)
      clear B5 hb6
      go_wp2_with fail
      go_ret
      exact ⟨rfl, B6.out⟩
    · have e1 : ((A ++ (⟨#[32, 111, 102, 32]⟩ : ByteArray) ++ B).toList == (C ++ (⟨#[32, 111, 102, 32]⟩ : ByteArray) ++ D).toList) = false := beq_eq_false_iff_ne.mpr fun h => h2 (HS.out.1 h).2
      have e2 : (b == d) = false := beq_eq_false_iff_ne.mpr h2
      have E1 := Lib.hid e1
      clear e1
      go_enter Tryd.func6, Tryd.ntmps6
      go_wp2_with (go_at_call 15; refine (sp _).mono ?_; rintro e w1 ⟨rfl, hb1⟩)
      obtain ⟨q0, q1, q2, q3, qb⟩ := two_cells w1 (.int .i64 a) (.int .i64 b) (.int .i64 a) (.int .i64 d) 61
      have Q := Lib.hid (below_all hb1 qb)
      refine (HEA.out _ _ (Wok_below HW.out Q.out) q0 q1).mono ?_
      rintro e w2 ⟨rfl, hb2⟩
      have r0 := Lib.hid (cellk hb2 q0)
      have r1 := Lib.hid (cellk hb2 q1)
      have r2 := Lib.hid (cellk hb2 q2)
      have r3 := Lib.hid (cellk hb2 q3)
      have B2 := Lib.hid (below_all Q.out hb2)
      clear q0 q1 q2 q3 qb hb1 hb2 Q
      go_wp2_with fail
      refine (HEC.out _ _ (Wok_below HW.out B2.out) r2.out r3.out).mono ?_
      rintro e w3 ⟨rfl, hb3⟩
      have t0 := Lib.hid (cellk hb3 r0.out)
      have t1 := Lib.hid (cellk hb3 r1.out)
      have B3 := Lib.hid (below_all B2.out hb3)
      clear r0 r1 r2 r3 B2 hb3
      have e1 := E1.out
      go_wp2_with fail
      refine (HEA.out _ _ (Wok_below HW.out B3.out) t0.out t1.out).mono ?_
      rintro e w4 ⟨rfl, hb4⟩
      have B4 := Lib.hid (below_all B3.out hb4)
      clear t0 t1 B3 hb4
      go_wp2_with fail
      refine (HDA.out _).mono ?_
      rintro e w5 ⟨rfl, hb5⟩
      have B5 := Lib.hid (below_all B4.out hb5)
      clear B4 hb5
      go_wp2_with fail
      refine (HDB.out _).mono ?_
      rintro e w6 ⟨rfl, hb6⟩
      have B6 := Lib.hid (below_all B5.out hb6)
      clear B5 hb6
      go_wp2_with fail
      go_ret
      exact ⟨rfl, B6.out⟩
  · have e1 : ((A ++ (⟨#[32, 111, 102, 32]⟩ : ByteArray) ++ B).toList == (C ++ (⟨#[32, 111, 102, 32]⟩ : ByteArray) ++ D).toList) = false := beq_eq_false_iff_ne.mpr fun h => h1 (HS.out.1 h).1
    have e2 : (a == c) = false := beq_eq_false_iff_ne.mpr h1
    have E1 := Lib.hid e1
    clear e1
    go_enter Tryd.func6, Tryd.ntmps6
    go_wp2_with (go_at_call 15; refine (sp _).mono ?_; rintro e w1 ⟨rfl, hb1⟩)
    obtain ⟨q0, q1, q2, q3, qb⟩ := two_cells w1 (.int .i64 a) (.int .i64 b) (.int .i64 c) (.int .i64 d) 61
    have Q := Lib.hid (below_all hb1 qb)
    refine (HEA.out _ _ (Wok_below HW.out Q.out) q0 q1).mono ?_
    rintro e w2 ⟨rfl, hb2⟩
    have r0 := Lib.hid (cellk hb2 q0)
    have r1 := Lib.hid (cellk hb2 q1)
    have r2 := Lib.hid (cellk hb2 q2)
    have r3 := Lib.hid (cellk hb2 q3)
    have B2 := Lib.hid (below_all Q.out hb2)
    clear q0 q1 q2 q3 qb hb1 hb2 Q
    go_wp2_with fail
    refine (HEC.out _ _ (Wok_below HW.out B2.out) r2.out r3.out).mono ?_
    rintro e w3 ⟨rfl, hb3⟩
    have t0 := Lib.hid (cellk hb3 r0.out)
    have t1 := Lib.hid (cellk hb3 r1.out)
    have B3 := Lib.hid (below_all B2.out hb3)
    clear r0 r1 r2 r3 B2 hb3
    have e1 := E1.out
    go_wp2_with fail
    refine (HEA.out _ _ (Wok_below HW.out B3.out) t0.out t1.out).mono ?_
    rintro e w4 ⟨rfl, hb4⟩
    have B4 := Lib.hid (below_all B3.out hb4)
    clear t0 t1 B3 hb4
    go_wp2_with fail
    refine (HDA.out _).mono ?_
    rintro e w5 ⟨rfl, hb5⟩
    have B5 := Lib.hid (below_all B4.out hb5)
    clear B4 hb5
    go_wp2_with fail
    refine (HDB.out _).mono ?_
    rintro e w6 ⟨rfl, hb6⟩
    have B6 := Lib.hid (below_all B5.out hb6)
    clear B5 hb6
    go_wp2_with fail
    go_ret
    exact ⟨rfl, B6.out⟩
end Go.Proofs.YtfkgklbaafbbiaaDoor.Shorts
