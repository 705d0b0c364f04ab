-- Laid by a program of this session (tools/patch_print.py) out of the translation. Not trusted: Lean checks it.
import Derived.Test.YtnmjocoopbfpnaaDoorPRefAx0
namespace Go.Proofs.YtnmjocoopbfpnaaDoor.PRefA
open Go.RowKit Go.Proofs.YtnmjocoopbfpnaaDoorW.PrintWords Go.Proofs.YtnmjocoopbfpnaaDoorW.PrintLast Go.Proofs.YtnmjocoopbfpnaaDoorW.PrintMore
attribute [local go_sem] max2_int min2_int max_two min_two max_three min_three max_four min_four   -- for this text's walks alone
set_option linter.unusedVariables false
set_option linter.unusedSimpArgs false

/-- The names and what they stand for, as the row lays them. -/
def entTab : List (List UInt8 × List UInt8) := [([65, 77, 80], [38]), ([65, 77, 80, 59], [38]), ([71, 84], [62]), ([71, 84, 59], [62]), ([76, 84], [60]), ([76, 84, 59], [60]), ([78, 101, 119, 76, 105, 110, 101, 59], [10]), ([81, 85, 79, 84], [34]), ([81, 85, 79, 84, 59], [34]), ([84, 97, 98, 59], [9]), ([97, 99, 69, 59], [226, 136, 190, 204, 179]), ([97, 108, 112, 104, 97, 59], [206, 177]), ([97, 109, 112], [38]), ([97, 109, 112, 59], [38]), ([97, 112, 111, 115, 59], [39]), ([98, 101, 116, 97, 59], [206, 178]), ([98, 117, 108, 108, 59], [226, 128, 162]), ([99, 111, 108, 111, 110, 59], [58]), ([99, 111, 112, 121], [194, 169]), ([99, 111, 112, 121, 59], [194, 169]), ([100, 101, 103], [194, 176]), ([100, 101, 103, 59], [194, 176]), ([100, 105, 118, 105, 100, 101], [195, 183]), ([100, 105, 118, 105, 100, 101, 59], [195, 183]), ([101, 117, 114, 111, 59], [226, 130, 172]), ([103, 101, 59], [226, 137, 165]), ([103, 116], [62]), ([103, 116, 59], [62]), ([104, 101, 108, 108, 105, 112, 59], [226, 128, 166]), ([105, 110, 102, 105, 110, 59], [226, 136, 158]), ([108, 100, 113, 117, 111, 59], [226, 128, 156]), ([108, 101, 59], [226, 137, 164]), ([108, 112, 97, 114, 59], [40]), ([108, 115, 113, 117, 111, 59], [226, 128, 152]), ([108, 116], [60]), ([108, 116, 59], [60]), ([109, 100, 97, 115, 104, 59], [226, 128, 148]), ([110, 98, 115, 112], [194, 160]), ([110, 98, 115, 112, 59], [194, 160]), ([110, 100, 97, 115, 104, 59], [226, 128, 147]), ([110, 111, 116], [194, 172]), ([110, 111, 116, 59], [194, 172]), ([110, 111, 116, 105, 110, 59], [226, 136, 137]), ([110, 118, 108, 116, 59], [60, 226, 131, 146]), ([112, 97, 114, 97], [194, 182]), ([112, 97, 114, 97, 59], [194, 182]), ([113, 117, 111, 116], [34]), ([113, 117, 111, 116, 59], [34]), ([114, 100, 113, 117, 111, 59], [226, 128, 157]), ([114, 101, 103], [194, 174]), ([114, 101, 103, 59], [194, 174]), ([114, 112, 97, 114, 59], [41]), ([114, 115, 113, 117, 111, 59], [226, 128, 153]), ([115, 101, 99, 116], [194, 167]), ([115, 101, 99, 116, 59], [194, 167]), ([115, 111, 108, 59], [47]), ([116, 105, 109, 101, 115], [195, 151]), ([116, 105, 109, 101, 115, 59], [195, 151]), ([116, 114, 97, 100, 101, 59], [226, 132, 162]), ([121, 101, 110], [194, 165]), ([121, 101, 110, 59], [194, 165])]
def entS (m : Nat) : ByteArray := ⟨((entTab.getD m ([], [])).1).toArray⟩
def entT (m : Nat) : ByteArray := ⟨((entTab.getD m ([], [])).2).toArray⟩
def entCells : List Value := entTab.flatMap fun x => [.string ⟨x.1.toArray⟩, .string ⟨x.2.toArray⟩]
/-- The table of the names lies in a world. -/
def EntW (w : World) : Prop := ∃ t fz, w.heap[0]? = some (.cells entCells.toArray t fz)
theorem EntW_below {w w' : World} (h : EntW w) (hb : Below w.heap.size w w') : EntW w' := by
  obtain ⟨t, fz, h⟩ := h
  exact ⟨t, fz, (hb.block _ (Array.getElem?_eq_some_iff.1 h).1).trans h⟩
theorem flat2 {α : Type} (f g : α → Value) : ∀ (l : List α) (i : Nat) (x : α), l[i]? = some x → (l.flatMap fun x => [f x, g x])[2 * i]? = some (f x) ∧ (l.flatMap fun x => [f x, g x])[2 * i + 1]? = some (g x)
  | [], _, _, h => by simp at h
  | a :: r, 0, x, h => by
    obtain rfl : a = x := by simpa using h
    exact ⟨rfl, rfl⟩
  | a :: r, i + 1, x, h => by
    have := flat2 f g r i x (by simpa using h)
    rw [show 2 * (i + 1) = 2 * i + 2 by omega]
    simpa using this
theorem entLen : entTab.length = 61 := rfl
theorem EntW.cell {w : World} (h : EntW w) (m : Nat) (hm : m < 61) : w.cell? ⟨0, 2 * m, none⟩ = some (.string (entS m)) ∧ w.cell? ⟨0, 2 * m + 1, none⟩ = some (.string (entT m)) := by
  obtain ⟨t, fz, h⟩ := h
  have hx : entTab[m]? = some (entTab.getD m ([], [])) := by
    rw [List.getD_eq_getElem?_getD, List.getElem?_eq_getElem (by rw [entLen]; exact hm), Option.getD_some]
  have := flat2 (fun x : List UInt8 × List UInt8 => Value.string ⟨x.1.toArray⟩) (fun x => Value.string ⟨x.2.toArray⟩) entTab m _ hx
  constructor
  · simp only [World.cell?, h, List.getElem?_toArray]
    exact this.1
  · simp only [World.cell?, h, List.getElem?_toArray]
    exact this.2
theorem of_rows2 {α : Type} (f g : α → Value) : ∀ (rows : List α) (l : List Value), l.length = 2 * rows.length → (∀ m x, rows[m]? = some x → (l.drop (m * 2)).take 2 = [f x, g x]) → l = rows.flatMap fun x => [f x, g x]
  | [], l, h, _ => by
    cases l with
    | nil => rfl
    | cons _ _ => simp at h
  | x :: r, l, h, hm => by
    have h0 := hm 0 x rfl
    match l, h with
    | [], h => simp at h
    | [a], h => simp at h; omega
    | a :: b :: l', h =>
      have e : [a, b] = [f x, g x] := by simpa using h0
      obtain ⟨rfl, rfl⟩ : a = f x ∧ b = g x := by simpa using e
      have ih := of_rows2 f g r l' (by simp at h; omega) (fun m y hy => by
        have := hm (m + 1) y (by simpa using hy)
        rw [show (m + 1) * 2 = m * 2 + 2 by omega] at this
        simpa using this)
      show _ = f x :: g x :: r.flatMap _
      rw [← ih]
def entData : DataW Unit := .agg (entTab.map fun x => .agg [.lit (.string x.1), .lit (.string x.2)])
theorem EntW_of_reads {W : World} (h : Lib.VarReads Tryd.prog W "decanter/entity.table" entData) : EntW W := by
  obtain ⟨g, t, cs, fuel, p, hg, ht, hv, hd⟩ := h
  obtain rfl := Option.some.inj ((show Tryd.prog.globalNamed "decanter/entity.table" = some 0 by kernel_rfl).symm.trans hg)
  obtain rfl := Option.some.inj ((show (Tryd.prog.globals[0]?).map (·.type) = some 59 by kernel_rfl).symm.trans ht)
  have cE : Tryd.prog.cellsOf 58 = 2 := by kernel_rfl
  have cA : Tryd.prog.cellsOf 59 = 122 := by kernel_rfl
  have cS : Tryd.prog.cellsOf 9 = 1 := by kernel_rfl
  have hlen : cs.toList.length = 122 := by
    obtain ⟨_, _, _, _, hl, _⟩ := DataW.trod_array Tryd.underlying59 hd
    rw [hl, cA]
  have hcs : cs.toList = entCells := by
    refine of_rows2 _ _ entTab cs.toList (by rw [hlen]; rfl) fun m x hx => ?_
    have hm : m < 61 := by
      have := (List.getElem?_eq_some_iff.1 hx).1
      rwa [entLen] at this
    obtain ⟨fuel', d, q, hdi, he⟩ := Lib.array_elem Tryd.underlying59 hd m hm
    rw [List.getElem?_map, hx, Option.map_some] at hdi
    obtain rfl := Option.some.inj hdi
    rw [cE] at he
    obtain ⟨y0, y1, n, hy, hl, h0, h1⟩ := Go.ChangeShapes.trod_struct2 Tryd.underlying58 he
    rw [cE] at hl
    have hy' := congrArg Prod.fst hy
    simp only [DataW.agg.injEq, List.cons.injEq, and_true] at hy'
    obtain ⟨s0, hc0, hz0, _⟩ := DataW.trod_string Tryd.underlying9 h0
    obtain ⟨s1, hc1, hz1, _⟩ := DataW.trod_string Tryd.underlying9 h1
    rw [hz0, hz1] at hy'
    simp only [DataW.lit.injEq, Lit.string.injEq] at hy'
    rw [show Tryd.prog.cellsOf _ = 1 from cS] at hc0 hc1
    generalize (cs.toList.drop (m * 2)).take 2 = l at hl hc0 hc1 ⊢
    match l, hl with
    | [a, b], _ =>
      have e0 : a = .string s0 := by simpa using hc0
      have e1 : b = .string s1 := by simpa using hc1
      rw [e0, e1, hy'.1, hy'.2]
  unfold World.var? at hv
  rw [show Tryd.prog.globalNamed "decanter/entity.table" = some 0 by kernel_rfl, Option.bind_some] at hv
  split at hv
  · rename_i c2 t fz hh
    obtain rfl := Option.some.inj hv
    refine ⟨t, fz, ?_⟩
    rw [← hcs]
    exact hh
  · cases hv
/-- What the numbers from 128 on stand for. -/
def highTab : List Int := [8364, 0, 8218, 402, 8222, 8230, 8224, 8225, 710, 8240, 352, 8249, 338, 0, 381, 0, 0, 8216, 8217, 8220, 8221, 8226, 8211, 8212, 732, 8482, 353, 8250, 339, 0, 382, 376]
def HighW (w : World) : Prop := ∃ t fz, w.heap[1]? = some (.cells (highTab.map fun z => Value.int .i32 z).toArray t fz)
theorem HighW_of_reads {W : World} (h : Lib.VarReads Tryd.prog W "decanter/ref.high" (Lib.tabData .i32 highTab)) : HighW W := by
  obtain ⟨g, t, cs, fuel, p, hg, ht, hv, hd⟩ := h
  have gN : Tryd.prog.globalNamed "decanter/ref.high" = some 1 := by kernel_rfl
  obtain rfl := Option.some.inj (gN.symm.trans hg)
  obtain rfl := Option.some.inj ((show (Tryd.prog.globals[1]?).map (·.type) = some 77 by kernel_rfl).symm.trans ht)
  have hc := Lib.cells_of_tab Tryd.underlying77 Tryd.underlying21 (by kernel_rfl) (by kernel_rfl) hd
  unfold World.var? at hv
  rw [gN, Option.bind_some] at hv
  split at hv
  · rename_i c2 t fz hh
    obtain rfl := Option.some.inj hv
    refine ⟨t, fz, ?_⟩
    rw [← hc]
    exact hh
  · cases hv
/-- What the walks ask of a world: the tables lie in it. -/
def Wok (w : World) : Prop := EntW w ∧ HighW w ∧ Lib.Utf8Tabs 2 3 w
theorem Wok_row {w : World} (h : Wok w) : ∃ t fz, w.heap[0]? = some (.cells entCells.toArray t fz) := h.1
theorem Wok_high {w : World} (h : Wok w) : HighW w := h.2.1
theorem Wok_u8 {w : World} (h : Wok w) : Lib.Utf8Tabs 2 3 w := h.2.2
theorem Wok.cell {w : World} (h : Wok w) (m : Nat) (hm : m < 61) : w.cell? ⟨0, 2 * m, none⟩ = some (.string (entS m)) ∧ w.cell? ⟨0, 2 * m + 1, none⟩ = some (.string (entT m)) := EntW.cell h.1 m hm
theorem Wok_below {w w' : World} (h : Wok w) (hb : Below w.heap.size w w') : Wok w' := by
  refine ⟨EntW_below h.1 hb, ?_, Utf8Tabs_below h.2.2 hb⟩
  obtain ⟨t, fz, h⟩ := h.2.1
  exact ⟨t, fz, (hb.block _ (Array.getElem?_eq_some_iff.1 h).1).trans h⟩
def u8ren : Go.Shelf.Ren := ⟨fun n => n, fun | 5 => 5 | 119 => 92 | 138 => 94 | 139 => 95 | n => n, fun | 3 => 2 | 4 => 3 | n => n⟩
theorem u8types : U8Types Tryd.prog u8ren := { t5 := Tryd.underlying5, t119 := Tryd.underlying92, t138 := Tryd.underlying94, t139 := Tryd.underlying95 }
theorem u8extra : U8Extra Tryd.prog u8ren := { n3 := by kernel_rfl, n4 := by kernel_rfl, y3 := by kernel_rfl, y4 := by kernel_rfl, c5 := by kernel_rfl, c119 := by kernel_rfl, c138 := by kernel_rfl }
theorem Wok_of_laid {W : World} (h : laidMetH Tryd.prog Rows.refTextsRow.laid W) : Wok W := by
  rw [MakeChecks.laidMetH_plain _ _ _ (by kernel_rfl)] at h
  refine ⟨EntW_of_reads ((show (Rows.laid_decanter_entity_table : DataW Unit) = entData by kernel_rfl) ▸ Lib.laidMet.reads h (List.mem_cons_of_mem _ (List.mem_cons_self ..))), HighW_of_reads ((show (Rows.laid_decanter_ref_high : DataW Unit) = Lib.tabData .i32 highTab by kernel_rfl) ▸ Lib.laidMet.reads h (List.mem_cons_of_mem _ (List.mem_cons_of_mem _ (List.mem_cons_self ..)))), ?_⟩
  exact utf8Tabs_of_readsT u8types u8extra ((show Rows.laid_unicode_utf8_first = Lib.firstData by kernel_rfl) ▸ Lib.laidMet.reads h (List.mem_cons_of_mem _ (List.mem_cons_of_mem _ (List.mem_cons_of_mem _ (List.mem_cons_self ..))))) ((show (Rows.laid_unicode_utf8_acceptRanges : DataW Unit) = Lib.acceptData by kernel_rfl) ▸ Lib.laidMet.reads h (List.mem_cons_self ..))

/-! ### ref_Point: function 25 -/
def ref_Point.high (a0 : Int) : Int := highTab.getD (a0 - 128).toNat 0
def ref_Point.pt (a0 : Int) : Int := if a0 ≤ 0 ∨ 1114111 < a0 ∨ Lib.validRune a0 = false then 65533 else if (128 ≤ a0 ∧ a0 < 160) ∧ ref_Point.high a0 ≠ 0 then ref_Point.high a0 else a0
def ref_Point.f (a0 : Int) : Option Int := some (ref_Point.pt a0)
theorem ref_Point.cell {w : World} (h : HighW w) (a0 : Int) (h0 : 128 ≤ a0) (h1 : a0 < 160) : w.cell? ⟨1, (a0 - 128).toNat, none⟩ = some (.int .i32 (ref_Point.high a0)) := by
  obtain ⟨t, fz, h⟩ := h
  have hlt : (a0 - 128).toNat < highTab.length := by
    show _ < 32
    omega
  simp only [World.cell?, h, List.getElem?_toArray, List.getElem?_map]
  unfold ref_Point.high
  rw [List.getD_eq_getElem?_getD, List.getElem?_eq_getElem hlt, Option.getD_some, Option.map_some]
  rfl
set_option maxRecDepth 100000 in
set_option maxHeartbeats 4000000 in
theorem ref_Point.calls (a0 : Int) (r : Int) (w : World) (hW : Wok w) (h : ref_Point.f a0 = some r) :
    Calls Tryd.prog 25 #[.int .i64 a0] w fun e w' => e = .returned (.int .i32 r) ∧ Below w.heap.size w w' := by
  obtain rfl := Option.some.inj h
  have HW := Lib.hid (Wok_high hW)
  clear h hW
  unfold ref_Point.pt
  by_cases h1 : a0 ≤ 0
  · rw [if_pos (Or.inl h1)]
    go_enter Tryd.func25, Tryd.ntmps25
    go_wp2
    go_ret
    exact ⟨rfl, by go_grown⟩
  · by_cases h2 : 1114111 < a0
    · rw [if_pos (Or.inr (Or.inl h2))]
      go_enter Tryd.func25, Tryd.ntmps25
      go_wp2
      go_ret
      exact ⟨rfl, by go_grown⟩
    · have hv := fun w => Tryd.utf8_ValidRune a0 w
      cases h3 : Lib.validRune a0 with
      | false =>
        rw [if_pos (Or.inr (Or.inr rfl))]
        rw [h3] at hv
        have HV := Lib.hid hv
        clear hv h3
        go_enter Tryd.func25, Tryd.ntmps25
        go_wp2_with (go_at_call 41; refine (HV.out _).mono ?_; rintro e w1 ⟨rfl, rfl⟩)
        go_ret
        exact ⟨rfl, by go_grown⟩
      | true =>
        rw [if_neg (by simp; omega)]
        rw [h3] at hv
        have HV := Lib.hid hv
        clear hv h3
        by_cases h4 : 128 ≤ a0 ∧ a0 < 160
        · obtain ⟨h4, h5⟩ := h4
          have hc := ref_Point.cell HW.out a0 h4 h5
          by_cases h6 : ref_Point.high a0 ≠ 0
          · rw [if_pos ⟨⟨h4, h5⟩, h6⟩]
            generalize ref_Point.high a0 = z at *
            go_enter Tryd.func25, Tryd.ntmps25
            go_wp2_with (go_at_call 41; refine (HV.out _).mono ?_; rintro e w1 ⟨rfl, rfl⟩)
            go_ret
            exact ⟨rfl, by go_grown⟩
          · rw [if_neg (fun h => h6 h.2)]
            have h7 : ref_Point.high a0 = 0 := by omega
            rw [h7] at hc
            clear h6 h7
            go_enter Tryd.func25, Tryd.ntmps25
            go_wp2_with (go_at_call 41; refine (HV.out _).mono ?_; rintro e w1 ⟨rfl, rfl⟩)
            go_ret
            exact ⟨rfl, by go_grown⟩
        · rw [if_neg (fun h => h4 h.1)]
          by_cases h5 : 128 ≤ a0
          · have h6 : ¬ a0 < 160 := fun h => h4 ⟨h5, h⟩
            clear h4
            go_enter Tryd.func25, Tryd.ntmps25
            go_wp2_with (go_at_call 41; refine (HV.out _).mono ?_; rintro e w1 ⟨rfl, rfl⟩)
            go_ret
            exact ⟨rfl, by go_grown⟩
          · clear h4
            go_enter Tryd.func25, Tryd.ntmps25
            go_wp2_with (go_at_call 41; refine (HV.out _).mono ?_; rintro e w1 ⟨rfl, rfl⟩)
            go_ret
            exact ⟨rfl, by go_grown⟩

/-! ### class_within: function 58 -/
def class_within.f (a0 : Int) (a1 : Int) (a2 : Int) : Option (Bool) := if a0 ≥ a1 then (some (decide (a0 ≤ a2))) else (some false)
set_option maxHeartbeats 8000000 in
set_option maxRecDepth 100000 in
theorem class_within.calls (a0 : Int) (a1 : Int) (a2 : Int) (r : Bool) (w : World) (h : class_within.f a0 a1 a2 = some r) :
    Calls Tryd.prog 58 #[.int .i32 a0, .int .i32 a1, .int .i32 a2] w fun e w' => e = .returned (.bool r) ∧ Drawn0 w w' := by
  have H : (if a0 ≥ a1 then (some (decide (a0 ≤ a2))) else (some false)) = some r := h
  clear h
  by_cases c4 : a0 ≥ a1
  · rw [if_pos c4] at H
    have c4b0 : decide (a1 ≤ a0) = true := decide_eq_true c4
    clear c4
    obtain rfl := Option.some.inj H
    go_enter Tryd.func58, Tryd.ntmps58
    go_wp2
    go_ret
    exact ⟨by first | rfl | (simp; done) | (simp [*]; done), by repeat (first | exact Drawn0.refl _ | apply Drawn0.step)⟩
  · rw [if_neg c4] at H
    have c4b0 : decide (a1 ≤ a0) = false := decide_eq_false c4
    clear c4
    obtain rfl := Option.some.inj H
    go_enter Tryd.func58, Tryd.ntmps58
    go_wp2
    go_ret
    exact ⟨by first | rfl | (simp; done) | (simp [*]; done), by repeat (first | exact Drawn0.refl _ | apply Drawn0.step)⟩

/-! ### class_Lower: function 48 -/
def class_Lower.f (a0 : Int) : Option (Int) := (class_within.f a0 65 90).bind fun t101 => (if t101 = true then (some (wrap32 (a0 + 32))) else (some a0))
set_option maxHeartbeats 8000000 in
set_option maxRecDepth 100000 in
theorem class_Lower.calls (a0 : Int) (r : Int) (w : World) (h : class_Lower.f a0 = some r) :
    Calls Tryd.prog 48 #[.int .i32 a0] w fun e w' => e = .returned (.int .i32 r) ∧ Drawn0 w w' := by
  have H : ((class_within.f a0 65 90).bind fun t101 => (if t101 = true then (some (wrap32 (a0 + 32))) else (some a0))) = some r := h
  clear h
  replace H := Option.bind_eq_some_iff.mp H
  obtain ⟨t101, A20, H⟩ := H
  replace H : (if t101 = true then (some (wrap32 (a0 + 32))) else (some a0)) = some r := H
  have A2 := Aside0.mk A20
  clear A20
  by_cases c3 : t101 = true
  · subst c3
    have H1 : (some (wrap32 (a0 + 32))) = some r := by rw [if_pos rfl] at H; exact H
    clear H
    have H := H1
    clear H1
    obtain rfl := Option.some.inj H
    go_enter Tryd.func48, Tryd.ntmps48
    go_wp2_with (first | ((with_reducible refine gate_callee (f := 58) rfl ?_); refine goesL_ (some 4) rfl rfl Tryd.func58 (by kernel_rfl) rfl #[.int .i32 a0, .int .i32 65, .int .i32 90] rfl (by (try simp only [List.map_toArray, List.map_cons, List.map_nil]); first | done | rfl | (simp only [List.length_drop, List.length_take]; rfl)) ?_; (with_reducible refine (class_within.calls a0 65 90 true _ A2.out).mono ?_); rintro e w' ⟨rfl, ⟨nd, rfl⟩⟩; refine ⟨_, rfl, ?_⟩))
    go_ret
    exact ⟨by first | rfl | (simp; done) | (simp [*]; done), by repeat (first | exact Drawn0.refl _ | apply Drawn0.step)⟩
  · replace c3 := Bool.eq_false_iff.mpr c3
    subst c3
    have H1 : (some a0) = some r := by rw [if_neg (show ¬ (false = true) by decide)] at H; exact H
    clear H
    have H := H1
    clear H1
    obtain rfl := Option.some.inj H
    go_enter Tryd.func48, Tryd.ntmps48
    go_wp2_with (first | ((with_reducible refine gate_callee (f := 58) rfl ?_); refine goesL_ (some 4) rfl rfl Tryd.func58 (by kernel_rfl) rfl #[.int .i32 a0, .int .i32 65, .int .i32 90] rfl (by (try simp only [List.map_toArray, List.map_cons, List.map_nil]); first | done | rfl | (simp only [List.length_drop, List.length_take]; rfl)) ?_; (with_reducible refine (class_within.calls a0 65 90 false _ A2.out).mono ?_); rintro e w' ⟨rfl, ⟨nd, rfl⟩⟩; refine ⟨_, rfl, ?_⟩))
    go_ret
    exact ⟨by first | rfl | (simp; done) | (simp [*]; done), by repeat (first | exact Drawn0.refl _ | apply Drawn0.step)⟩

/-! ### class_Digit: function 51 -/
def class_Digit.f (a0 : Int) : Option (Bool) := (class_within.f a0 48 57).bind fun t102 => (some t102)
set_option maxHeartbeats 8000000 in
set_option maxRecDepth 100000 in
theorem class_Digit.calls (a0 : Int) (r : Bool) (w : World) (h : class_Digit.f a0 = some r) :
    Calls Tryd.prog 51 #[.int .i32 a0] w fun e w' => e = .returned (.bool r) ∧ Drawn0 w w' := by
  have H : ((class_within.f a0 48 57).bind fun t102 => (some t102)) = some r := h
  clear h
  replace H := Option.bind_eq_some_iff.mp H
  obtain ⟨t102, A20, H⟩ := H
  replace H : (some t102) = some r := H
  have A2 := Aside0.mk A20
  clear A20
  obtain rfl := Option.some.inj H
  go_enter Tryd.func51, Tryd.ntmps51
  go_wp2_with (first | ((with_reducible refine gate_callee (f := 58) rfl ?_); refine goesL_ (some 4) rfl rfl Tryd.func58 (by kernel_rfl) rfl #[.int .i32 a0, .int .i32 48, .int .i32 57] rfl (by (try simp only [List.map_toArray, List.map_cons, List.map_nil]); first | done | rfl | (simp only [List.length_drop, List.length_take]; rfl)) ?_; (with_reducible refine (class_within.calls a0 48 57 t102 _ A2.out).mono ?_); rintro e w' ⟨rfl, ⟨nd, rfl⟩⟩; refine ⟨_, rfl, ?_⟩))
  go_ret
  exact ⟨by first | rfl | (simp; done) | (simp [*]; done), by repeat (first | exact Drawn0.refl _ | apply Drawn0.step)⟩

/-! ### class_Hex: function 59 -/
def class_Hex.f (a0 : Int) : Option (Int × Bool) := (class_Lower.f a0).bind fun t103 => ((class_Digit.f t103).bind fun t104 => (if t104 = true then (some (wrap64 (wrap32 (t103 - 48)), true)) else ((class_within.f t103 97 102).bind fun t105 => (if t105 = true then (some (wrap64 ((wrap64 (wrap32 (t103 - 97))) + 10), true)) else (some (0, false))))))
set_option maxHeartbeats 8000000 in
set_option maxRecDepth 100000 in
theorem class_Hex.calls (a0 : Int) (r1 : Int) (r2 : Bool) (w : World) (h : class_Hex.f a0 = some (r1, r2)) :
    Calls Tryd.prog 59 #[.int .i32 a0] w fun e w' => e = .returned (.tuple #[.int .i64 r1, .bool r2]) ∧ Drawn0 w w' := by
  have H : ((class_Lower.f a0).bind fun t103 => ((class_Digit.f t103).bind fun t104 => (if t104 = true then (some (wrap64 (wrap32 (t103 - 48)), true)) else ((class_within.f t103 97 102).bind fun t105 => (if t105 = true then (some (wrap64 ((wrap64 (wrap32 (t103 - 97))) + 10), true)) else (some (0, false))))))) = some (r1, r2) := h
  clear h
  replace H := Option.bind_eq_some_iff.mp H
  obtain ⟨t103, A20, H⟩ := H
  replace H : ((class_Digit.f t103).bind fun t104 => (if t104 = true then (some (wrap64 (wrap32 (t103 - 48)), true)) else ((class_within.f t103 97 102).bind fun t105 => (if t105 = true then (some (wrap64 ((wrap64 (wrap32 (t103 - 97))) + 10), true)) else (some (0, false)))))) = some (r1, r2) := H
  have A2 := Aside0.mk A20
  clear A20
  replace H := Option.bind_eq_some_iff.mp H
  obtain ⟨t104, A30, H⟩ := H
  replace H : (if t104 = true then (some (wrap64 (wrap32 (t103 - 48)), true)) else ((class_within.f t103 97 102).bind fun t105 => (if t105 = true then (some (wrap64 ((wrap64 (wrap32 (t103 - 97))) + 10), true)) else (some (0, false))))) = some (r1, r2) := H
  have A3 := Aside0.mk A30
  clear A30
  by_cases c4 : t104 = true
  · subst c4
    have H1 : (some (wrap64 (wrap32 (t103 - 48)), true)) = some (r1, r2) := by rw [if_pos rfl] at H; exact H
    clear H
    have H := H1
    clear H1
    simp only [Option.some.injEq, Prod.mk.injEq] at H
    obtain ⟨rfl, rfl⟩ := H
    go_enter Tryd.func59, Tryd.ntmps59
    go_wp2_with (first | ((with_reducible refine gate_callee (f := 48) rfl ?_); refine goesL_ (some 5) rfl rfl Tryd.func48 (by kernel_rfl) rfl #[.int .i32 a0] rfl (by (try simp only [List.map_toArray, List.map_cons, List.map_nil]); first | done | rfl | (simp only [List.length_drop, List.length_take]; rfl)) ?_; (with_reducible refine (class_Lower.calls a0 t103 _ A2.out).mono ?_); rintro e w' ⟨rfl, ⟨nd, rfl⟩⟩; refine ⟨_, rfl, ?_⟩) | ((with_reducible refine gate_callee (f := 51) rfl ?_); refine goesL_ (some 8) rfl rfl Tryd.func51 (by kernel_rfl) rfl #[.int .i32 t103] rfl (by (try simp only [List.map_toArray, List.map_cons, List.map_nil]); first | done | rfl | (simp only [List.length_drop, List.length_take]; rfl)) ?_; (with_reducible refine (class_Digit.calls t103 true _ A3.out).mono ?_); rintro e w' ⟨rfl, ⟨nd, rfl⟩⟩; refine ⟨_, rfl, ?_⟩))
    go_ret2
    exact ⟨by first | rfl | (simp; done) | (simp [*]; done), by repeat (first | exact Drawn0.refl _ | apply Drawn0.step)⟩
  · replace c4 := Bool.eq_false_iff.mpr c4
    subst c4
    have H1 : ((class_within.f t103 97 102).bind fun t105 => (if t105 = true then (some (wrap64 ((wrap64 (wrap32 (t103 - 97))) + 10), true)) else (some (0, false)))) = some (r1, r2) := by rw [if_neg (show ¬ (false = true) by decide)] at H; exact H
    clear H
    have H := H1
    clear H1
    replace H := Option.bind_eq_some_iff.mp H
    obtain ⟨t105, A50, H⟩ := H
    replace H : (if t105 = true then (some (wrap64 ((wrap64 (wrap32 (t103 - 97))) + 10), true)) else (some (0, false))) = some (r1, r2) := H
    have A5 := Aside0.mk A50
    clear A50
    by_cases c6 : t105 = true
    · subst c6
      have H1 : (some (wrap64 ((wrap64 (wrap32 (t103 - 97))) + 10), true)) = some (r1, r2) := by rw [if_pos rfl] at H; exact H
      clear H
      have H := H1
      clear H1
      simp only [Option.some.injEq, Prod.mk.injEq] at H
      obtain ⟨rfl, rfl⟩ := H
      go_enter Tryd.func59, Tryd.ntmps59
      go_wp2_with (first | ((with_reducible refine gate_callee (f := 48) rfl ?_); refine goesL_ (some 5) rfl rfl Tryd.func48 (by kernel_rfl) rfl #[.int .i32 a0] rfl (by (try simp only [List.map_toArray, List.map_cons, List.map_nil]); first | done | rfl | (simp only [List.length_drop, List.length_take]; rfl)) ?_; (with_reducible refine (class_Lower.calls a0 t103 _ A2.out).mono ?_); rintro e w' ⟨rfl, ⟨nd, rfl⟩⟩; refine ⟨_, rfl, ?_⟩) | ((with_reducible refine gate_callee (f := 51) rfl ?_); refine goesL_ (some 8) rfl rfl Tryd.func51 (by kernel_rfl) rfl #[.int .i32 t103] rfl (by (try simp only [List.map_toArray, List.map_cons, List.map_nil]); first | done | rfl | (simp only [List.length_drop, List.length_take]; rfl)) ?_; (with_reducible refine (class_Digit.calls t103 false _ A3.out).mono ?_); rintro e w' ⟨rfl, ⟨nd, rfl⟩⟩; refine ⟨_, rfl, ?_⟩) | ((with_reducible refine gate_callee (f := 58) rfl ?_); refine goesL_ (some 14) rfl rfl Tryd.func58 (by kernel_rfl) rfl #[.int .i32 t103, .int .i32 97, .int .i32 102] rfl (by (try simp only [List.map_toArray, List.map_cons, List.map_nil]); first | done | rfl | (simp only [List.length_drop, List.length_take]; rfl)) ?_; (with_reducible refine (class_within.calls t103 97 102 true _ A5.out).mono ?_); rintro e w' ⟨rfl, ⟨nd, rfl⟩⟩; refine ⟨_, rfl, ?_⟩))
      go_ret2
      exact ⟨by first | rfl | (simp; done) | (simp [*]; done), by repeat (first | exact Drawn0.refl _ | apply Drawn0.step)⟩
    · replace c6 := Bool.eq_false_iff.mpr c6
      subst c6
      have H1 : (some (0, false)) = some (r1, r2) := by rw [if_neg (show ¬ (false = true) by decide)] at H; exact H
      clear H
      have H := H1
      clear H1
      simp only [Option.some.injEq, Prod.mk.injEq] at H
      obtain ⟨rfl, rfl⟩ := H
      go_enter Tryd.func59, Tryd.ntmps59
      go_wp2_with (first | ((with_reducible refine gate_callee (f := 48) rfl ?_); refine goesL_ (some 5) rfl rfl Tryd.func48 (by kernel_rfl) rfl #[.int .i32 a0] rfl (by (try simp only [List.map_toArray, List.map_cons, List.map_nil]); first | done | rfl | (simp only [List.length_drop, List.length_take]; rfl)) ?_; (with_reducible refine (class_Lower.calls a0 t103 _ A2.out).mono ?_); rintro e w' ⟨rfl, ⟨nd, rfl⟩⟩; refine ⟨_, rfl, ?_⟩) | ((with_reducible refine gate_callee (f := 51) rfl ?_); refine goesL_ (some 8) rfl rfl Tryd.func51 (by kernel_rfl) rfl #[.int .i32 t103] rfl (by (try simp only [List.map_toArray, List.map_cons, List.map_nil]); first | done | rfl | (simp only [List.length_drop, List.length_take]; rfl)) ?_; (with_reducible refine (class_Digit.calls t103 false _ A3.out).mono ?_); rintro e w' ⟨rfl, ⟨nd, rfl⟩⟩; refine ⟨_, rfl, ?_⟩) | ((with_reducible refine gate_callee (f := 58) rfl ?_); refine goesL_ (some 14) rfl rfl Tryd.func58 (by kernel_rfl) rfl #[.int .i32 t103, .int .i32 97, .int .i32 102] rfl (by (try simp only [List.map_toArray, List.map_cons, List.map_nil]); first | done | rfl | (simp only [List.length_drop, List.length_take]; rfl)) ?_; (with_reducible refine (class_within.calls t103 97 102 false _ A5.out).mono ?_); rintro e w' ⟨rfl, ⟨nd, rfl⟩⟩; refine ⟨_, rfl, ?_⟩))
      go_ret2
      exact ⟨by first | rfl | (simp; done) | (simp [*]; done), by repeat (first | exact Drawn0.refl _ | apply Drawn0.step)⟩

/-! ### ref_digits: function 49 -/
def ref_digits.l0 : Nat → Int → Int → Int → List Int → Int → Int → Option (Int × Int)
  | 0, _, _, _, _, _, _ => none
  | k + 1, x1, x6, x7, x12, x13, x14 => if x14 < x13 then (if 0 ≤ x14 then (if x14 < (x12.length : Int) then ((class_Hex.f (wrap32 (rd x12 x14))).bind fun bt107 => (if bt107.2 = true then (if bt107.1 ≥ x1 then (some (x6, x7)) else (ref_digits.l0 k x1 (mn (wrap64 ((wrap64 (x6 * x1)) + bt107.1)) 1114112) (wrap64 (x7 + 1)) x12 x13 (wrap64 (x14 + 1)))) else (some (x6, x7)))) else (none)) else (none)) else (some (x6, x7))
def ref_digits.f (k : Nat) (l0 : List Int) (a1 : Int) : Option (Int × Int) := ref_digits.l0 k a1 0 0 l0 (l0.length : Int) 0
theorem ref_digits.mono_l : ∀ k, (∀ y0 y1 y2 y3 y4 y5, LeO (ref_digits.l0 k y0 y1 y2 y3 y4 y5) (ref_digits.l0 (k + 1) y0 y1 y2 y3 y4 y5))
  | 0 => fun _ _ _ _ _ _ r h => by simp [ref_digits.l0] at h
  | k + 1 => by
    have ih0 := ref_digits.mono_l k
    · intro y0 y1 y2 y3 y4 y5
      unfold ref_digits.l0
      repeat' first
      | (with_reducible exact ih0 _ _ _ _ _ _)
      | (with_reducible exact LeO.refl _)
      | (with_reducible exact LeO.none _)
      | (with_reducible refine LeO.ite ?_ ?_)
      | (with_reducible refine LeO.bind ?_ (fun _ => ?_))
      | exact ih0 _ _ _ _ _ _
      | exact LeO.none _
      | refine LeO.ite ?_ ?_
      | refine LeO.bind ?_ (fun _ => ?_)
theorem ref_digits.mono : ∀ a0 a1 k, LeO (ref_digits.f k a0 a1) (ref_digits.f (k + 1) a0 a1) := by
  intro a0 a1 k
  have ih0 := ref_digits.mono_l k
  unfold ref_digits.f
  repeat' first
      | (with_reducible exact ih0 _ _ _ _ _ _)
      | (with_reducible exact LeO.refl _)
      | (with_reducible exact LeO.none _)
      | (with_reducible refine LeO.ite ?_ ?_)
      | (with_reducible refine LeO.bind ?_ (fun _ => ?_))
      | exact ih0 _ _ _ _ _ _
      | exact LeO.none _
      | refine LeO.ite ?_ ?_
      | refine LeO.bind ?_ (fun _ => ?_)
set_option maxHeartbeats 8000000 in
set_option maxRecDepth 100000 in
theorem ref_digits.calls (k : Nat) (A0 : Option Addr) (c0 : Nat) (l0 : List Int) (a1 : Int) (r1 : Int) (r2 : Int) (w : World) (hr0 : Kd.C (Kd.int .u8) w A0 l0.length l0) (hc0 : l0.length ≤ c0) (h : ref_digits.f k l0 a1 = some (r1, r2)) :
    Calls Tryd.prog 49 #[.slice A0 l0.length c0, .int .i64 a1] w fun e w' => e = .returned (.tuple #[.int .i64 r1, .int .i64 r2]) ∧ Below w.heap.size w w' := by
  have HR0 := Aside0.mk hr0
  have HC0 := Aside0.mk hc0
  clear hr0 hc0
  have HB := Aside0.mk (Below.refl w.heap.size w)
  have H : (ref_digits.l0 k a1 0 0 l0 (l0.length : Int) 0) = some (r1, r2) := h
  clear h
  have H' := Aside0.mk H
  clear H
  go_enter Tryd.func49, Tryd.ntmps49
  go_wp2
  go_loopg [6, 7, 14] k (fun kq v6 v7 v14 w' => ∃ (x6_1 : Int) (x7_1 : Int) (x14_1 : Int), v6 = .int .i64 x6_1 ∧ v7 = .int .i64 x7_1 ∧ v14 = .int .i64 x14_1 ∧ Aside0 (ref_digits.l0 kq a1 x6_1 x7_1 l0 (l0.length : Int) x14_1 = some (r1, r2)) ∧ Aside0 (kq ≤ k) ∧ Aside0 (Below w.heap.size w w'))
  case atStart => exact ⟨(0), (0), (0), (by first | rfl | (simp; done) | (simp [*]; done)), (by first | rfl | (simp; done) | (simp [*]; done)), (by first | rfl | (simp; done) | (simp [*]; done)), H', ⟨Nat.le_refl _⟩, ⟨by repeat (first | (with_reducible first | exact HB.out | apply below_alloc | apply pw_below_drewN | apply below_drew1) | exact HB.out)⟩⟩
  case round =>
    clear H'
    try clear p2
    obtain ⟨x6_1, x7_1, x14_1, rfl, rfl, rfl, HA, HK1, HB⟩ := hrel
    cases gk with
    | zero => exact absurd HA.out (by simp [ref_digits.l0])
    | succ k1 =>
      have H := HA.out
      clear HA
      simp only [ref_digits.l0] at H
      by_cases c3 : x14_1 < (l0.length : Int)
      · rw [if_pos c3] at H
        have c3b0 : decide (x14_1 < (l0.length : Int)) = true := decide_eq_true c3
        clear c3
        by_cases c4 : 0 ≤ x14_1
        · rw [if_pos c4] at H
          have c4b0 : decide (0 ≤ x14_1) = true := decide_eq_true c4
          clear c4
          by_cases c5 : x14_1 < (l0.length : Int)
          · rw [if_pos c5] at H
            have c5b0 : decide (x14_1 < (l0.length : Int)) = true := decide_eq_true c5
            clear c5
            replace H := Option.bind_eq_some_iff.mp H
            obtain ⟨⟨t107, t108⟩, A60, H⟩ := H
            replace H : (if t108 = true then (if t107 ≥ a1 then (some (x6_1, x7_1)) else (ref_digits.l0 k1 a1 (mn (wrap64 ((wrap64 (x6_1 * a1)) + t107)) 1114112) (wrap64 (x7_1 + 1)) l0 (l0.length : Int) (wrap64 (x14_1 + 1)))) else (some (x6_1, x7_1))) = some (r1, r2) := H
            have A6 := Aside0.mk A60
            clear A60
            by_cases c7 : t108 = true
            · subst c7
              have H1 : (if t107 ≥ a1 then (some (x6_1, x7_1)) else (ref_digits.l0 k1 a1 (mn (wrap64 ((wrap64 (x6_1 * a1)) + t107)) 1114112) (wrap64 (x7_1 + 1)) l0 (l0.length : Int) (wrap64 (x14_1 + 1)))) = some (r1, r2) := by rw [if_pos rfl] at H; exact H
              clear H
              have H := H1
              clear H1
              by_cases c8 : t107 ≥ a1
              · rw [if_pos c8] at H
                have c8b0 : decide (a1 ≤ t107) = true := decide_eq_true c8
                clear c8
                simp only [Option.some.injEq, Prod.mk.injEq] at H
                obtain ⟨rfl, rfl⟩ := H
                have p106 : 0 ≤ (x14_1 : Int) := of_decide_eq_true (by first | (with_reducible assumption) | assumption)
                have q106 : x14_1 < (l0.length : Int) := of_decide_eq_true (by first | (with_reducible assumption) | assumption)
                obtain ⟨ad106, e106, hx106_0⟩ := Kd.at_int HR0.out x14_1 p106 q106
                cases e106
                replace hx106_0 := (HB.out.cell (World.block_lt_of_cell? w _ hx106_0)).trans hx106_0
                replace p106 := eq_true p106
                replace q106 := eq_true q106
                go_wp2_with (first | ((with_reducible refine gate_callee (f := 59) rfl ?_); refine goesL_ (some 21) rfl rfl Tryd.func59 (by kernel_rfl) rfl #[.int .i32 (wrap32 (rd l0 x14_1))] rfl (by (try simp only [List.map_toArray, List.map_cons, List.map_nil]); first | done | rfl | (simp only [List.length_drop, List.length_take]; rfl)) ?_; (with_reducible refine (class_Hex.calls (wrap32 (rd l0 x14_1)) t107 true _ A6.out).mono ?_); rintro e w' ⟨rfl, ⟨nd, rfl⟩⟩; refine ⟨_, rfl, ?_⟩))
                go_ret2
                exact ⟨by first | rfl | (simp [errW_none, errW_some] <;> rfl) | (simp [*, errW_none, errW_some] <;> rfl), by repeat (first | (with_reducible first | exact HB.out | apply below_alloc | apply pw_below_drewN | apply below_drew1) | exact HB.out)⟩
              · rw [if_neg c8] at H
                have c8b0 : decide (a1 ≤ t107) = false := decide_eq_false c8
                clear c8
                obtain ⟨ji9, hji9⟩ : ∃ j_ : Int, (mn (wrap64 ((wrap64 (x6_1 * a1)) + t107)) 1114112) = j_ := ⟨_, rfl⟩
                replace H : (ref_digits.l0 k1 a1 ji9 (wrap64 (x7_1 + 1)) l0 (l0.length : Int) (wrap64 (x14_1 + 1))) = some (r1, r2) := by first | (rw [hji9] at H; exact H) | (simp only [hji9] at H ⊢; exact H)
                (try rw [hji9] at A6)
                have hji9_ : (if 1114112 < (wrap64 ((wrap64 (x6_1 * a1)) + t107)) then 1114112 else (wrap64 ((wrap64 (x6_1 * a1)) + t107))) = ji9 := hji9
                have H' := Aside0.mk H
                clear H
                have p106 : 0 ≤ (x14_1 : Int) := of_decide_eq_true (by first | (with_reducible assumption) | assumption)
                have q106 : x14_1 < (l0.length : Int) := of_decide_eq_true (by first | (with_reducible assumption) | assumption)
                obtain ⟨ad106, e106, hx106_0⟩ := Kd.at_int HR0.out x14_1 p106 q106
                cases e106
                replace hx106_0 := (HB.out.cell (World.block_lt_of_cell? w _ hx106_0)).trans hx106_0
                replace p106 := eq_true p106
                replace q106 := eq_true q106
                go_wp2_with (first | ((with_reducible refine gate_callee (f := 59) rfl ?_); refine goesL_ (some 21) rfl rfl Tryd.func59 (by kernel_rfl) rfl #[.int .i32 (wrap32 (rd l0 x14_1))] rfl (by (try simp only [List.map_toArray, List.map_cons, List.map_nil]); first | done | rfl | (simp only [List.length_drop, List.length_take]; rfl)) ?_; (with_reducible refine (class_Hex.calls (wrap32 (rd l0 x14_1)) t107 true _ A6.out).mono ?_); rintro e w' ⟨rfl, ⟨nd, rfl⟩⟩; refine ⟨_, rfl, ?_⟩))
                go_roundg k1
                case measure => have := HK1.out; omega
                case rel => exact ⟨(ji9), (wrap64 (x7_1 + 1)), (wrap64 (x14_1 + 1)), (by first | rfl | (simp; done) | (simp only [← hji9] <;> (first | rfl | simp)) | (simp [*]; done)), (by first | rfl | (simp; done) | (simp [*]; done)), (by first | rfl | (simp; done) | (simp [*]; done)), H', ⟨by have := HK1.out; omega⟩, ⟨by repeat (first | (with_reducible first | exact HB.out | apply below_alloc | apply pw_below_drewN | apply below_drew1) | exact HB.out)⟩⟩
            · replace c7 := Bool.eq_false_iff.mpr c7
              subst c7
              have H1 : (some (x6_1, x7_1)) = some (r1, r2) := by rw [if_neg (show ¬ (false = true) by decide)] at H; exact H
              clear H
              have H := H1
              clear H1
              simp only [Option.some.injEq, Prod.mk.injEq] at H
              obtain ⟨rfl, rfl⟩ := H
              have p106 : 0 ≤ (x14_1 : Int) := of_decide_eq_true (by first | (with_reducible assumption) | assumption)
              have q106 : x14_1 < (l0.length : Int) := of_decide_eq_true (by first | (with_reducible assumption) | assumption)
              obtain ⟨ad106, e106, hx106_0⟩ := Kd.at_int HR0.out x14_1 p106 q106
              cases e106
              replace hx106_0 := (HB.out.cell (World.block_lt_of_cell? w _ hx106_0)).trans hx106_0
              replace p106 := eq_true p106
              replace q106 := eq_true q106
              go_wp2_with (first | ((with_reducible refine gate_callee (f := 59) rfl ?_); refine goesL_ (some 21) rfl rfl Tryd.func59 (by kernel_rfl) rfl #[.int .i32 (wrap32 (rd l0 x14_1))] rfl (by (try simp only [List.map_toArray, List.map_cons, List.map_nil]); first | done | rfl | (simp only [List.length_drop, List.length_take]; rfl)) ?_; (with_reducible refine (class_Hex.calls (wrap32 (rd l0 x14_1)) t107 false _ A6.out).mono ?_); rintro e w' ⟨rfl, ⟨nd, rfl⟩⟩; refine ⟨_, rfl, ?_⟩))
              go_ret2
              exact ⟨by first | rfl | (simp [errW_none, errW_some] <;> rfl) | (simp [*, errW_none, errW_some] <;> rfl), by repeat (first | (with_reducible first | exact HB.out | apply below_alloc | apply pw_below_drewN | apply below_drew1) | exact HB.out)⟩
          · rw [if_neg c5] at H
            exact absurd H (by simp)
        · rw [if_neg c4] at H
          exact absurd H (by simp)
      · rw [if_neg c3] at H
        have c3b0 : decide (x14_1 < (l0.length : Int)) = false := decide_eq_false c3
        clear c3
        simp only [Option.some.injEq, Prod.mk.injEq] at H
        obtain ⟨rfl, rfl⟩ := H
        go_wp2
        go_ret2
        exact ⟨by first | rfl | (simp [errW_none, errW_some] <;> rfl) | (simp [*, errW_none, errW_some] <;> rfl), by repeat (first | (with_reducible first | exact HB.out | apply below_alloc | apply pw_below_drewN | apply below_drew1) | exact HB.out)⟩

/-! ### ref_number: function 34 -/
mutual
def ref_number.j0 : Nat → List Int → Int → Int → Bool → Option (ByteArray × Int)
  | 0, _, _, _, _ => none
  | k + 1, x0, x4, x5, x19 => if x19 = true then (ref_number.j1 k x0 16 1) else (ref_number.j1 k x0 x4 x5)
def ref_number.j1 : Nat → List Int → Int → Int → Option (ByteArray × Int)
  | 0, _, _, _ => none
  | k + 1, x0, x4, x5 => if 0 ≤ x5 then (if x5 ≤ (x0.length : Int) then ((ref_digits.f k (x0.drop (x5 : Int).toNat) x4).bind fun bt112 => (if bt112.2 = 0 then (some ((⟨#[]⟩ : ByteArray), 0)) else (if (wrap64 (x5 + bt112.2)) < (x0.length : Int) then (if 0 ≤ (wrap64 (x5 + bt112.2)) then (if (rd x0 (wrap64 (x5 + bt112.2))) = 59 then ((ref_Point.f bt112.1).bind fun t115 => (some (Go.Utf8.encode t115, wrap64 ((wrap64 (x5 + bt112.2)) + 1)))) else ((ref_Point.f bt112.1).bind fun t116 => (some (Go.Utf8.encode t116, wrap64 (x5 + bt112.2))))) else (none)) else ((ref_Point.f bt112.1).bind fun t117 => (some (Go.Utf8.encode t117, wrap64 (x5 + bt112.2))))))) else (none)) else (none)
end
def ref_number.f (k : Nat) (l0 : List Int) : Option (ByteArray × Int) := if (l0.length : Int) > 0 then (if 0 < (l0.length : Int) then ((class_Lower.f (wrap32 (rd l0 0))).bind fun t110 => (ref_number.j0 k l0 10 0 (t110 == 120))) else (none)) else (ref_number.j0 k l0 10 0 false)
theorem ref_number.mono_l : ∀ k, (∀ y0 y1 y2 y3, LeO (ref_number.j0 k y0 y1 y2 y3) (ref_number.j0 (k + 1) y0 y1 y2 y3)) ∧ (∀ y0 y1 y2, LeO (ref_number.j1 k y0 y1 y2) (ref_number.j1 (k + 1) y0 y1 y2))
  | 0 => ⟨fun _ _ _ _ r h => by simp [ref_number.j0] at h, fun _ _ _ r h => by simp [ref_number.j1] at h⟩
  | k + 1 => by
    obtain ⟨ih0, ih1⟩ := ref_number.mono_l k
    refine ⟨?_, ?_⟩
    · intro y0 y1 y2 y3
      unfold ref_number.j0
      repeat' first
      | (with_reducible exact ih0 _ _ _ _)
      | (with_reducible exact ih1 _ _ _)
      | (with_reducible exact ref_digits.mono _ _ _)
      | (with_reducible exact LeO.refl _)
      | (with_reducible exact LeO.none _)
      | (with_reducible refine LeO.ite ?_ ?_)
      | (with_reducible refine LeO.bind ?_ (fun _ => ?_))
      | exact ih0 _ _ _ _
      | exact ih1 _ _ _
      | exact ref_digits.mono _ _ _
      | exact LeO.none _
      | refine LeO.ite ?_ ?_
      | refine LeO.bind ?_ (fun _ => ?_)
    · intro y0 y1 y2
      unfold ref_number.j1
      repeat' first
      | (with_reducible exact ih0 _ _ _ _)
      | (with_reducible exact ih1 _ _ _)
      | (with_reducible exact ref_digits.mono _ _ _)
      | (with_reducible exact LeO.refl _)
      | (with_reducible exact LeO.none _)
      | (with_reducible refine LeO.ite ?_ ?_)
      | (with_reducible refine LeO.bind ?_ (fun _ => ?_))
      | exact ih0 _ _ _ _
      | exact ih1 _ _ _
      | exact ref_digits.mono _ _ _
      | exact LeO.none _
      | refine LeO.ite ?_ ?_
      | refine LeO.bind ?_ (fun _ => ?_)
theorem ref_number.mono : ∀ a0 k, LeO (ref_number.f k a0) (ref_number.f (k + 1) a0) := by
  intro a0 k
  obtain ⟨ih0, ih1⟩ := ref_number.mono_l k
  unfold ref_number.f
  repeat' first
      | (with_reducible exact ih0 _ _ _ _)
      | (with_reducible exact ih1 _ _ _)
      | (with_reducible exact ref_digits.mono _ _ _)
      | (with_reducible exact LeO.refl _)
      | (with_reducible exact LeO.none _)
      | (with_reducible refine LeO.ite ?_ ?_)
      | (with_reducible refine LeO.bind ?_ (fun _ => ?_))
      | exact ih0 _ _ _ _
      | exact ih1 _ _ _
      | exact ref_digits.mono _ _ _
      | exact LeO.none _
      | refine LeO.ite ?_ ?_
      | refine LeO.bind ?_ (fun _ => ?_)
set_option maxHeartbeats 8000000 in
set_option maxRecDepth 100000 in
theorem ref_number.calls (k : Nat) (A0 : Option Addr) (c0 : Nat) (l0 : List Int) (r1 : ByteArray) (r2 : Int) (w : World) (hW : Wok w) (hr0 : Kd.C (Kd.int .u8) w A0 l0.length l0) (hc0 : l0.length ≤ c0) (h : ref_number.f k l0 = some (r1, r2)) :
    Calls Tryd.prog 34 #[.slice A0 l0.length c0] w fun e w' => e = .returned (.tuple #[.string r1, .int .i64 r2]) ∧ Below w.heap.size w w' := by
  have HR0 := Aside0.mk hr0
  have HC0 := Aside0.mk hc0
  clear hr0 hc0
  have HB := Aside0.mk (Below.refl w.heap.size w)
  have H : (if (l0.length : Int) > 0 then (if 0 < (l0.length : Int) then ((class_Lower.f (wrap32 (rd l0 0))).bind fun t110 => (ref_number.j0 k l0 10 0 (t110 == 120))) else (none)) else (ref_number.j0 k l0 10 0 false)) = some (r1, r2) := h
  clear h
  have HC2 := Aside0.mk H
  clear H
  go_enter Tryd.func34, Tryd.ntmps34
  go_upto_region 2 with (fail)
  go_cut [19] (fun v19 wc => ∃ (kq : Nat) (x19_1 : Bool), v19 = .bool x19_1 ∧ Aside0 (ref_number.j0 kq l0 10 0 x19_1 = some (r1, r2)) ∧ Aside0 (kq ≤ k) ∧ Aside0 (Below w.heap.size w wc))
  case first =>
    have H := HC2.out
    clear HC2
    by_cases c3 : (l0.length : Int) > 0
    · rw [if_pos c3] at H
      have c3b0 : decide (0 < (l0.length : Int)) = true := decide_eq_true c3
      have c3b1 : decide (0 < l0.length) = true := decide_eq_true (by omega)
      clear c3
      (first | rw [c3b0] | (simp only [i64_w, i32_w]; rw [c3b0]) | skip)
      by_cases c4 : 0 < (l0.length : Int)
      · rw [if_pos c4] at H
        have c4b0 : decide (0 < (l0.length : Int)) = true := decide_eq_true c4
        have c4b1 : decide (0 < l0.length) = true := decide_eq_true (by omega)
        clear c4
        replace H := Option.bind_eq_some_iff.mp H
        obtain ⟨t110, A50, H⟩ := H
        replace H : (ref_number.j0 k l0 10 0 (t110 == 120)) = some (r1, r2) := H
        have A5 := Aside0.mk A50
        clear A50
        have H' := Aside0.mk H
        clear H
        have p109 : 0 ≤ (0 : Int) := (by omega)
        have q109 : 0 < (l0.length : Int) := of_decide_eq_true (by first | (with_reducible assumption) | assumption)
        obtain ⟨ad109, e109, hx109_0⟩ := Kd.at_int HR0.out 0 p109 q109
        cases e109
        have qi109 : (0 < l0.length) = True := eq_true (by omega)
        (try rw [show ((0 : Int)).toNat = 0 from rfl] at hx109_0)
        (try rw [Addr.add_zero'] at hx109_0)
        replace hx109_0 := (HB.out.cell (World.block_lt_of_cell? w _ hx109_0)).trans hx109_0
        replace p109 := eq_true p109
        replace q109 := eq_true q109
        go_wp2_with (first | (go_at_call 48; (with_reducible refine (class_Lower.calls (wrap32 (rd l0 0)) t110 _ A5.out).mono ?_); rintro e w' ⟨rfl, ⟨nd, rfl⟩⟩))
        go_meet
        case rel => exact ⟨_, ((t110 == 120)), (by first | rfl | (simp; done) | (simp [*]; done)), H', ⟨by first | omega | exact Nat.le_refl _⟩, ⟨by repeat (first | (with_reducible first | exact HB.out | apply below_alloc | apply pw_below_drewN | apply below_drew1) | exact HB.out)⟩⟩
      · rw [if_neg c4] at H
        exact absurd H (by simp)
    · rw [if_neg c3] at H
      have c3b0 : decide (0 < (l0.length : Int)) = false := decide_eq_false c3
      have c3b1 : decide (0 < l0.length) = false := decide_eq_false (by omega)
      clear c3
      (first | rw [c3b0] | (simp only [i64_w, i32_w]; rw [c3b0]) | skip)
      have H' := Aside0.mk H
      clear H
      go_wp2
      go_meet
      case rel => exact ⟨_, (false), (by first | rfl | (simp; done) | (simp [*]; done)), H', ⟨by first | omega | exact Nat.le_refl _⟩, ⟨by repeat (first | (with_reducible first | exact HB.out | apply below_alloc | apply pw_below_drewN | apply below_drew1) | exact HB.out)⟩⟩
  case rest =>
    clear HC2
    try clear p1
    try clear q1
    try clear hx1
    try clear qi1
    try clear p2
    try clear c3
    try clear c3b0
    try clear c3b1
    try clear p3
    try clear c4
    try clear c4b0
    try clear c4b1
    try clear hx109_0
    try clear p109
    try clear q109
    obtain ⟨kq, x19_1, rfl, HA, HJ1, HB⟩ := hcut
    cases kq with
    | zero => exact absurd HA.out (by simp [ref_number.j0])
    | succ kj1 =>
      have H := HA.out
      clear HA
      simp only [ref_number.j0] at H
      have HC6 := Aside0.mk H
      clear H
      go_upto_if 19 with (fail)
      go_cut [4, 5] (fun v4 v5 wc => ∃ (kq : Nat) (x4_5 : Int) (x5_5 : Int), v4 = .int .i64 x4_5 ∧ v5 = .int .i64 x5_5 ∧ Aside0 (ref_number.j1 kq l0 x4_5 x5_5 = some (r1, r2)) ∧ Aside0 (kq ≤ kj1) ∧ Aside0 (Below w.heap.size w wc))
      case first =>
        have H := HC6.out
        clear HC6
        by_cases c7 : x19_1 = true
        · subst c7
          have H1 : (ref_number.j1 kj1 l0 16 1) = some (r1, r2) := by rw [if_pos rfl] at H; exact H
          clear H
          have H := H1
          clear H1
          have H' := Aside0.mk H
          clear H
          go_wp2
          go_meet
          case rel => exact ⟨_, (16), (1), (by first | rfl | (simp; done) | (simp [*]; done)), (by first | rfl | (simp; done) | (simp [*]; done)), H', ⟨by have := HJ1.out; first | omega | exact Nat.le_refl _⟩, ⟨by repeat (first | (with_reducible first | exact HB.out | apply below_alloc | apply pw_below_drewN | apply below_drew1) | exact HB.out)⟩⟩
        · replace c7 := Bool.eq_false_iff.mpr c7
          subst c7
          have H1 : (ref_number.j1 kj1 l0 10 0) = some (r1, r2) := by rw [if_neg (show ¬ (false = true) by decide)] at H; exact H
          clear H
          have H := H1
          clear H1
          have H' := Aside0.mk H
          clear H
          go_wp2
          go_meet
          case rel => exact ⟨_, (10), (0), (by first | rfl | (simp; done) | (simp [*]; done)), (by first | rfl | (simp; done) | (simp [*]; done)), H', ⟨by have := HJ1.out; first | omega | exact Nat.le_refl _⟩, ⟨by repeat (first | (with_reducible first | exact HB.out | apply below_alloc | apply pw_below_drewN | apply below_drew1) | exact HB.out)⟩⟩
      case rest =>
        clear HC6
        try clear p1
        try clear q1
        try clear hx1
        try clear qi1
        try clear p2
        try clear c3
        try clear c3b0
        try clear c3b1
        try clear p3
        try clear c4
        try clear c4b0
        try clear c4b1
        try clear c7
        try clear hx109_0
        try clear p1
        try clear p109
        try clear p2
        try clear p3
        try clear q1
        try clear q109
        obtain ⟨kq, x4_5, x5_5, rfl, rfl, HA, HJ5, HB⟩ := hcut
        cases kq with
        | zero => exact absurd HA.out (by simp [ref_number.j1])
        | succ kj5 =>
          have H := HA.out
          clear HA
          simp only [ref_number.j1] at H
          by_cases c8 : 0 ≤ x5_5
          · rw [if_pos c8] at H
            have c8b0 := eq_true c8
            have c8b1 : decide (0 ≤ x5_5) = true := decide_eq_true c8
            clear c8
            by_cases c9 : x5_5 ≤ (l0.length : Int)
            · rw [if_pos c9] at H
              have c9b0 := eq_true c9
              have c9b1 : decide (x5_5 ≤ (l0.length : Int)) = true := decide_eq_true c9
              clear c9
              replace H := Option.bind_eq_some_iff.mp H
              obtain ⟨⟨t112, t113⟩, A100, H⟩ := H
              replace H : (if t113 = 0 then (some ((⟨#[]⟩ : ByteArray), 0)) else (if (wrap64 (x5_5 + t113)) < (l0.length : Int) then (if 0 ≤ (wrap64 (x5_5 + t113)) then (if (rd l0 (wrap64 (x5_5 + t113))) = 59 then ((ref_Point.f t112).bind fun t115 => (some (Go.Utf8.encode t115, wrap64 ((wrap64 (x5_5 + t113)) + 1)))) else ((ref_Point.f t112).bind fun t116 => (some (Go.Utf8.encode t116, wrap64 (x5_5 + t113))))) else (none)) else ((ref_Point.f t112).bind fun t117 => (some (Go.Utf8.encode t117, wrap64 (x5_5 + t113)))))) = some (r1, r2) := H
              have A10 := Aside0.mk A100
              clear A100
              by_cases c11 : t113 = 0
              · rw [if_pos c11] at H
                have c11b0 : (t113 == 0) = true := beq_iff_eq.mpr c11
                have c11b1 : (t113 != 0) = false := bne_eq_false_iff_eq.mpr c11
                clear c11
                simp only [Option.some.injEq, Prod.mk.injEq] at H
                obtain ⟨rfl, rfl⟩ := H
                obtain ⟨i012, hi012, _, hsz12, _⟩ := info_parts info5
                obtain ⟨A12, hcut12, hA12, hC12⟩ := print_drop_of (P := Tryd.prog) (Value.int .u8) 0 37 5 .i64 Tryd.underlying37 hi012 hsz12 A0 c0 l0 x5_5 (of_decide_eq_true (by first | (with_reducible assumption) | assumption)) (of_decide_eq_true (by first | (with_reducible assumption) | assumption)) HC0.out
                have HR111 := Aside0.mk (Kd.C_of_reads (h1 := fun _ => rfl) (hA12 _ (Kd.reads_of_C HR0.out)))
                have HC111 := Aside0.mk hC12
                clear hA12 hC12 hi012 hsz12
                go_wp2_with (first | ((with_reducible refine gate_callee (f := 49) rfl ?_); refine goesL_ (some 25) rfl rfl Tryd.func49 (by kernel_rfl) rfl #[.slice A12 (l0.drop (x5_5 : Int).toNat).length (c0 - x5_5.toNat), .int .i64 x4_5] rfl (by (try simp only [List.map_toArray, List.map_cons, List.map_nil]); first | done | (rw [show (l0.drop (x5_5 : Int).toNat).length = (l0.length - x5_5.toNat) from List.length_drop] <;> rfl) | rfl | (simp only [List.length_drop, List.length_take]; rfl)) ?_; (with_reducible refine (ref_digits.calls kj5 _ _ (l0.drop (x5_5 : Int).toNat) x4_5 t112 t113 _ ?side1 ?side2 A10.out).mono ?_); (case side1 => repeat (first | exact (Kd.C_below HR111.out HB.out) | (with_reducible refine Kd.C_alloc ?_ _) | (with_reducible refine Kd.C_drewN ?_ _) | (with_reducible refine Kd.C_drew ?_))); (case side2 => exact HC111.out); rintro e w13 ⟨rfl, hb⟩; refine ⟨_, rfl, ?_⟩; have n0_ := Aside0.mk (below_step (by repeat (first | (with_reducible first | exact HB.out | apply below_alloc | apply pw_below_drewN | apply below_drew1) | exact HB.out)) hb); clear HB; have HB := n0_; clear n0_; (try clear hb); (try clear hb2); (try clear hk); (try clear hi)))
                go_ret2
                exact ⟨by first | rfl | (simp [errW_none, errW_some] <;> rfl) | (simp [*, errW_none, errW_some] <;> rfl), by repeat (first | (with_reducible first | exact HB.out | apply below_alloc | apply pw_below_drewN | apply below_drew1) | exact HB.out)⟩
              · rw [if_neg c11] at H
                have c11b0 : (t113 == 0) = false := beq_eq_false_iff_ne.mpr c11
                have c11b1 : (t113 != 0) = true := bne_iff_ne.mpr c11
                by_cases c14 : (wrap64 (x5_5 + t113)) < (l0.length : Int)
                · rw [if_pos c14] at H
                  have c14b0 : decide ((wrap64 (x5_5 + t113)) < (l0.length : Int)) = true := decide_eq_true c14
                  clear c14
                  obtain ⟨ji15, hji15⟩ : ∃ j_ : Int, (wrap64 (x5_5 + t113)) = j_ := ⟨_, rfl⟩
                  replace H : (if 0 ≤ (ji15) then (if (rd l0 (ji15)) = 59 then ((ref_Point.f t112).bind fun t115 => (some (Go.Utf8.encode t115, wrap64 ((ji15) + 1)))) else ((ref_Point.f t112).bind fun t116 => (some (Go.Utf8.encode t116, ji15)))) else (none)) = some (r1, r2) := by first | (rw [hji15] at H; exact H) | (simp only [hji15] at H ⊢; exact H)
                  (try rw [hji15] at c14b0)
                  (try rw [hji15] at A10)
                  have hji15w : (IntKind.i64.wrap (x5_5 + t113)) = ji15 := (i64_w _).trans hji15
                  by_cases c16 : 0 ≤ (ji15)
                  · rw [if_pos c16] at H
                    have c16b0 : decide (0 ≤ (ji15)) = true := decide_eq_true c16
                    clear c16
                    by_cases c17 : (rd l0 (ji15)) = 59
                    · rw [if_pos c17] at H
                      have c17b0 : ((rd l0 (ji15)) == 59) = true := beq_iff_eq.mpr c17
                      have c17b1 : ((rd l0 (ji15)) != 59) = false := bne_eq_false_iff_eq.mpr c17
                      clear c17
                      replace H := Option.bind_eq_some_iff.mp H
                      obtain ⟨t115, A180, H⟩ := H
                      replace H : (some (Go.Utf8.encode t115, wrap64 ((ji15) + 1))) = some (r1, r2) := H
                      have A18 := Aside0.mk A180
                      clear A180
                      simp only [Option.some.injEq, Prod.mk.injEq] at H
                      obtain ⟨rfl, rfl⟩ := H
                      obtain ⟨i019, hi019, _, hsz19, _⟩ := info_parts info5
                      obtain ⟨A19, hcut19, hA19, hC19⟩ := print_drop_of (P := Tryd.prog) (Value.int .u8) 0 37 5 .i64 Tryd.underlying37 hi019 hsz19 A0 c0 l0 x5_5 (of_decide_eq_true (by first | (with_reducible assumption) | assumption)) (of_decide_eq_true (by first | (with_reducible assumption) | assumption)) HC0.out
                      have HR111 := Aside0.mk (Kd.C_of_reads (h1 := fun _ => rfl) (hA19 _ (Kd.reads_of_C HR0.out)))
                      have HC111 := Aside0.mk hC19
                      clear hA19 hC19 hi019 hsz19
                      go_wp2_with (first | ((with_reducible refine gate_callee (f := 49) rfl ?_); refine goesL_ (some 25) rfl rfl Tryd.func49 (by kernel_rfl) rfl #[.slice A19 (l0.drop (x5_5 : Int).toNat).length (c0 - x5_5.toNat), .int .i64 x4_5] rfl (by (try simp only [List.map_toArray, List.map_cons, List.map_nil]); first | done | (rw [show (l0.drop (x5_5 : Int).toNat).length = (l0.length - x5_5.toNat) from List.length_drop] <;> rfl) | rfl | (simp only [List.length_drop, List.length_take]; rfl)) ?_; (with_reducible refine (ref_digits.calls kj5 _ _ (l0.drop (x5_5 : Int).toNat) x4_5 t112 t113 _ ?side1 ?side2 A10.out).mono ?_); (case side1 => repeat (first | exact (Kd.C_below HR111.out HB.out) | (with_reducible refine Kd.C_alloc ?_ _) | (with_reducible refine Kd.C_drewN ?_ _) | (with_reducible refine Kd.C_drew ?_))); (case side2 => exact HC111.out); rintro e w20 ⟨rfl, hb⟩; refine ⟨_, rfl, ?_⟩; have n0_ := Aside0.mk (below_step (by repeat (first | (with_reducible first | exact HB.out | apply below_alloc | apply pw_below_drewN | apply below_drew1) | exact HB.out)) hb); clear HB; have HB := n0_; clear n0_; (try clear hb); (try clear hb2); (try clear hk); (try clear hi); have p114 : 0 ≤ ((ji15) : Int) := of_decide_eq_true (by first | (with_reducible assumption) | assumption); have q114 : (ji15) < (l0.length : Int) := of_decide_eq_true (by first | (with_reducible assumption) | assumption); obtain ⟨ad114, e114, hx114_0⟩ := Kd.at_int HR0.out (ji15) p114 q114; cases e114; replace hx114_0 := (HB.out.cell (World.block_lt_of_cell? w _ hx114_0)).trans hx114_0; replace p114 := eq_true p114; replace q114 := eq_true q114) | ((with_reducible refine gate_callee (f := 25) rfl ?_); refine goesL_ (some 47) rfl rfl Tryd.func25 (by kernel_rfl) rfl #[.int .i64 t112] rfl (by (try simp only [List.map_toArray, List.map_cons, List.map_nil]); first | done | rfl | (simp only [List.length_drop, List.length_take]; rfl)) ?_; (with_reducible refine (ref_Point.calls t112 t115 _ (Wok_below hW (by repeat (first | (with_reducible first | exact HB.out | apply below_alloc | apply pw_below_drewN | apply below_drew1) | exact HB.out))) A18.out).mono ?_); rintro e w21 ⟨rfl, hb⟩; refine ⟨_, rfl, ?_⟩; have n0_ := Aside0.mk (below_step (by repeat (first | (with_reducible first | exact HB.out | apply below_alloc | apply pw_below_drewN | apply below_drew1) | exact HB.out)) hb); clear HB; have HB := n0_; clear n0_; (try clear hb); (try clear hb2); (try clear hk); (try clear hi)))
                      go_ret2
                      exact ⟨by first | rfl | (simp [errW_none, errW_some] <;> rfl) | (simp only [← hji15]; first | rfl | (simp [errW_none, errW_some] <;> rfl)) | (simp [*, errW_none, errW_some] <;> rfl), by repeat (first | (with_reducible first | exact HB.out | apply below_alloc | apply pw_below_drewN | apply below_drew1) | exact HB.out)⟩
                    · rw [if_neg c17] at H
                      have c17b0 : ((rd l0 (ji15)) == 59) = false := beq_eq_false_iff_ne.mpr c17
                      have c17b1 : ((rd l0 (ji15)) != 59) = true := bne_iff_ne.mpr c17
                      replace H := Option.bind_eq_some_iff.mp H
                      obtain ⟨t116, A220, H⟩ := H
                      replace H : (some (Go.Utf8.encode t116, ji15)) = some (r1, r2) := H
                      have A22 := Aside0.mk A220
                      clear A220
                      simp only [Option.some.injEq, Prod.mk.injEq] at H
                      obtain ⟨rfl, rfl⟩ := H
                      obtain ⟨i023, hi023, _, hsz23, _⟩ := info_parts info5
                      obtain ⟨A23, hcut23, hA23, hC23⟩ := print_drop_of (P := Tryd.prog) (Value.int .u8) 0 37 5 .i64 Tryd.underlying37 hi023 hsz23 A0 c0 l0 x5_5 (of_decide_eq_true (by first | (with_reducible assumption) | assumption)) (of_decide_eq_true (by first | (with_reducible assumption) | assumption)) HC0.out
                      have HR111 := Aside0.mk (Kd.C_of_reads (h1 := fun _ => rfl) (hA23 _ (Kd.reads_of_C HR0.out)))
                      have HC111 := Aside0.mk hC23
                      clear hA23 hC23 hi023 hsz23
                      go_wp2_with (first | ((with_reducible refine gate_callee (f := 49) rfl ?_); refine goesL_ (some 25) rfl rfl Tryd.func49 (by kernel_rfl) rfl #[.slice A23 (l0.drop (x5_5 : Int).toNat).length (c0 - x5_5.toNat), .int .i64 x4_5] rfl (by (try simp only [List.map_toArray, List.map_cons, List.map_nil]); first | done | (rw [show (l0.drop (x5_5 : Int).toNat).length = (l0.length - x5_5.toNat) from List.length_drop] <;> rfl) | rfl | (simp only [List.length_drop, List.length_take]; rfl)) ?_; (with_reducible refine (ref_digits.calls kj5 _ _ (l0.drop (x5_5 : Int).toNat) x4_5 t112 t113 _ ?side1 ?side2 A10.out).mono ?_); (case side1 => repeat (first | exact (Kd.C_below HR111.out HB.out) | (with_reducible refine Kd.C_alloc ?_ _) | (with_reducible refine Kd.C_drewN ?_ _) | (with_reducible refine Kd.C_drew ?_))); (case side2 => exact HC111.out); rintro e w24 ⟨rfl, hb⟩; refine ⟨_, rfl, ?_⟩; have n0_ := Aside0.mk (below_step (by repeat (first | (with_reducible first | exact HB.out | apply below_alloc | apply pw_below_drewN | apply below_drew1) | exact HB.out)) hb); clear HB; have HB := n0_; clear n0_; (try clear hb); (try clear hb2); (try clear hk); (try clear hi); have p114 : 0 ≤ ((ji15) : Int) := of_decide_eq_true (by first | (with_reducible assumption) | assumption); have q114 : (ji15) < (l0.length : Int) := of_decide_eq_true (by first | (with_reducible assumption) | assumption); obtain ⟨ad114, e114, hx114_0⟩ := Kd.at_int HR0.out (ji15) p114 q114; cases e114; replace hx114_0 := (HB.out.cell (World.block_lt_of_cell? w _ hx114_0)).trans hx114_0; replace p114 := eq_true p114; replace q114 := eq_true q114) | ((with_reducible refine gate_callee (f := 25) rfl ?_); refine goesL_ (some 47) rfl rfl Tryd.func25 (by kernel_rfl) rfl #[.int .i64 t112] rfl (by (try simp only [List.map_toArray, List.map_cons, List.map_nil]); first | done | rfl | (simp only [List.length_drop, List.length_take]; rfl)) ?_; (with_reducible refine (ref_Point.calls t112 t116 _ (Wok_below hW (by repeat (first | (with_reducible first | exact HB.out | apply below_alloc | apply pw_below_drewN | apply below_drew1) | exact HB.out))) A22.out).mono ?_); rintro e w25 ⟨rfl, hb⟩; refine ⟨_, rfl, ?_⟩; have n0_ := Aside0.mk (below_step (by repeat (first | (with_reducible first | exact HB.out | apply below_alloc | apply pw_below_drewN | apply below_drew1) | exact HB.out)) hb); clear HB; have HB := n0_; clear n0_; (try clear hb); (try clear hb2); (try clear hk); (try clear hi)))
                      go_ret2
                      exact ⟨by first | rfl | (simp [errW_none, errW_some] <;> rfl) | (simp only [← hji15]; first | rfl | (simp [errW_none, errW_some] <;> rfl)) | (simp [*, errW_none, errW_some] <;> rfl), by repeat (first | (with_reducible first | exact HB.out | apply below_alloc | apply pw_below_drewN | apply below_drew1) | exact HB.out)⟩
                  · rw [if_neg c16] at H
                    exact absurd H (by simp)
                · rw [if_neg c14] at H
                  have c14b0 : decide ((wrap64 (x5_5 + t113)) < (l0.length : Int)) = false := decide_eq_false c14
                  clear c14
                  replace H := Option.bind_eq_some_iff.mp H
                  obtain ⟨t117, A260, H⟩ := H
                  replace H : (some (Go.Utf8.encode t117, wrap64 (x5_5 + t113))) = some (r1, r2) := H
                  have A26 := Aside0.mk A260
                  clear A260
                  simp only [Option.some.injEq, Prod.mk.injEq] at H
                  obtain ⟨rfl, rfl⟩ := H
                  obtain ⟨i027, hi027, _, hsz27, _⟩ := info_parts info5
                  obtain ⟨A27, hcut27, hA27, hC27⟩ := print_drop_of (P := Tryd.prog) (Value.int .u8) 0 37 5 .i64 Tryd.underlying37 hi027 hsz27 A0 c0 l0 x5_5 (of_decide_eq_true (by first | (with_reducible assumption) | assumption)) (of_decide_eq_true (by first | (with_reducible assumption) | assumption)) HC0.out
                  have HR111 := Aside0.mk (Kd.C_of_reads (h1 := fun _ => rfl) (hA27 _ (Kd.reads_of_C HR0.out)))
                  have HC111 := Aside0.mk hC27
                  clear hA27 hC27 hi027 hsz27
                  go_wp2_with (first | ((with_reducible refine gate_callee (f := 49) rfl ?_); refine goesL_ (some 25) rfl rfl Tryd.func49 (by kernel_rfl) rfl #[.slice A27 (l0.drop (x5_5 : Int).toNat).length (c0 - x5_5.toNat), .int .i64 x4_5] rfl (by (try simp only [List.map_toArray, List.map_cons, List.map_nil]); first | done | (rw [show (l0.drop (x5_5 : Int).toNat).length = (l0.length - x5_5.toNat) from List.length_drop] <;> rfl) | rfl | (simp only [List.length_drop, List.length_take]; rfl)) ?_; (with_reducible refine (ref_digits.calls kj5 _ _ (l0.drop (x5_5 : Int).toNat) x4_5 t112 t113 _ ?side1 ?side2 A10.out).mono ?_); (case side1 => repeat (first | exact (Kd.C_below HR111.out HB.out) | (with_reducible refine Kd.C_alloc ?_ _) | (with_reducible refine Kd.C_drewN ?_ _) | (with_reducible refine Kd.C_drew ?_))); (case side2 => exact HC111.out); rintro e w28 ⟨rfl, hb⟩; refine ⟨_, rfl, ?_⟩; have n0_ := Aside0.mk (below_step (by repeat (first | (with_reducible first | exact HB.out | apply below_alloc | apply pw_below_drewN | apply below_drew1) | exact HB.out)) hb); clear HB; have HB := n0_; clear n0_; (try clear hb); (try clear hb2); (try clear hk); (try clear hi)) | ((with_reducible refine gate_callee (f := 25) rfl ?_); refine goesL_ (some 47) rfl rfl Tryd.func25 (by kernel_rfl) rfl #[.int .i64 t112] rfl (by (try simp only [List.map_toArray, List.map_cons, List.map_nil]); first | done | rfl | (simp only [List.length_drop, List.length_take]; rfl)) ?_; (with_reducible refine (ref_Point.calls t112 t117 _ (Wok_below hW (by repeat (first | (with_reducible first | exact HB.out | apply below_alloc | apply pw_below_drewN | apply below_drew1) | exact HB.out))) A26.out).mono ?_); rintro e w29 ⟨rfl, hb⟩; refine ⟨_, rfl, ?_⟩; have n0_ := Aside0.mk (below_step (by repeat (first | (with_reducible first | exact HB.out | apply below_alloc | apply pw_below_drewN | apply below_drew1) | exact HB.out)) hb); clear HB; have HB := n0_; clear n0_; (try clear hb); (try clear hb2); (try clear hk); (try clear hi)))
                  go_ret2
                  exact ⟨by first | rfl | (simp [errW_none, errW_some] <;> rfl) | (simp [*, errW_none, errW_some] <;> rfl), by repeat (first | (with_reducible first | exact HB.out | apply below_alloc | apply pw_below_drewN | apply below_drew1) | exact HB.out)⟩
            · rw [if_neg c9] at H
              exact absurd H (by simp)
          · rw [if_neg c8] at H
            exact absurd H (by simp)

end Go.Proofs.YtnmjocoopbfpnaaDoor.PRefA
