-- Laid by a program of this session (tools/patch_print.py) out of the translation. Not trusted: Lean checks it.
import Derived.Test.YtnmjocoopbfpnaaDoorPEntityPx0
namespace Go.Proofs.YtnmjocoopbfpnaaDoor.PEntityP
open Go.RowKit Go.Proofs.YtnmjocoopbfpnaaDoorW.PrintWords Go.Proofs.YtnmjocoopbfpnaaDoorW.PrintLast Go.Proofs.YtnmjocoopbfpnaaDoorW.PrintMore
attribute [local go_sem] max2_int min2_int max_two min_two max_three min_three max_four min_four   -- for this text's walks alone
set_option linter.unusedVariables false
set_option linter.unusedSimpArgs false

/-- The names and what they stand for, as the row lays them. -/
def entTab : List (List UInt8 × List UInt8) := [([65, 77, 80], [38]), ([65, 77, 80, 59], [38]), ([71, 84], [62]), ([71, 84, 59], [62]), ([76, 84], [60]), ([76, 84, 59], [60]), ([78, 101, 119, 76, 105, 110, 101, 59], [10]), ([81, 85, 79, 84], [34]), ([81, 85, 79, 84, 59], [34]), ([84, 97, 98, 59], [9]), ([97, 99, 69, 59], [226, 136, 190, 204, 179]), ([97, 108, 112, 104, 97, 59], [206, 177]), ([97, 109, 112], [38]), ([97, 109, 112, 59], [38]), ([97, 112, 111, 115, 59], [39]), ([98, 101, 116, 97, 59], [206, 178]), ([98, 117, 108, 108, 59], [226, 128, 162]), ([99, 111, 108, 111, 110, 59], [58]), ([99, 111, 112, 121], [194, 169]), ([99, 111, 112, 121, 59], [194, 169]), ([100, 101, 103], [194, 176]), ([100, 101, 103, 59], [194, 176]), ([100, 105, 118, 105, 100, 101], [195, 183]), ([100, 105, 118, 105, 100, 101, 59], [195, 183]), ([101, 117, 114, 111, 59], [226, 130, 172]), ([103, 101, 59], [226, 137, 165]), ([103, 116], [62]), ([103, 116, 59], [62]), ([104, 101, 108, 108, 105, 112, 59], [226, 128, 166]), ([105, 110, 102, 105, 110, 59], [226, 136, 158]), ([108, 100, 113, 117, 111, 59], [226, 128, 156]), ([108, 101, 59], [226, 137, 164]), ([108, 112, 97, 114, 59], [40]), ([108, 115, 113, 117, 111, 59], [226, 128, 152]), ([108, 116], [60]), ([108, 116, 59], [60]), ([109, 100, 97, 115, 104, 59], [226, 128, 148]), ([110, 98, 115, 112], [194, 160]), ([110, 98, 115, 112, 59], [194, 160]), ([110, 100, 97, 115, 104, 59], [226, 128, 147]), ([110, 111, 116], [194, 172]), ([110, 111, 116, 59], [194, 172]), ([110, 111, 116, 105, 110, 59], [226, 136, 137]), ([110, 118, 108, 116, 59], [60, 226, 131, 146]), ([112, 97, 114, 97], [194, 182]), ([112, 97, 114, 97, 59], [194, 182]), ([113, 117, 111, 116], [34]), ([113, 117, 111, 116, 59], [34]), ([114, 100, 113, 117, 111, 59], [226, 128, 157]), ([114, 101, 103], [194, 174]), ([114, 101, 103, 59], [194, 174]), ([114, 112, 97, 114, 59], [41]), ([114, 115, 113, 117, 111, 59], [226, 128, 153]), ([115, 101, 99, 116], [194, 167]), ([115, 101, 99, 116, 59], [194, 167]), ([115, 111, 108, 59], [47]), ([116, 105, 109, 101, 115], [195, 151]), ([116, 105, 109, 101, 115, 59], [195, 151]), ([116, 114, 97, 100, 101, 59], [226, 132, 162]), ([121, 101, 110], [194, 165]), ([121, 101, 110, 59], [194, 165])]
def entS (m : Nat) : ByteArray := ⟨((entTab.getD m ([], [])).1).toArray⟩
def entT (m : Nat) : ByteArray := ⟨((entTab.getD m ([], [])).2).toArray⟩
def entCells : List Value := entTab.flatMap fun x => [.string ⟨x.1.toArray⟩, .string ⟨x.2.toArray⟩]
/-- What the walks ask of a world: the table lies in it. -/
def Wok (w : World) : Prop := ∃ t fz, w.heap[0]? = some (.cells entCells.toArray t fz)
theorem Wok_below {w w' : World} (h : Wok w) (hb : Below w.heap.size w w') : Wok w' := by
  obtain ⟨t, fz, h⟩ := h
  exact ⟨t, fz, (hb.block _ (Array.getElem?_eq_some_iff.1 h).1).trans h⟩
theorem flat2 {α : Type} (f g : α → Value) : ∀ (l : List α) (i : Nat) (x : α), l[i]? = some x → (l.flatMap fun x => [f x, g x])[2 * i]? = some (f x) ∧ (l.flatMap fun x => [f x, g x])[2 * i + 1]? = some (g x)
  | [], _, _, h => by simp at h
  | a :: r, 0, x, h => by
    obtain rfl : a = x := by simpa using h
    exact ⟨rfl, rfl⟩
  | a :: r, i + 1, x, h => by
    have := flat2 f g r i x (by simpa using h)
    rw [show 2 * (i + 1) = 2 * i + 2 by omega]
    simpa using this
theorem entLen : entTab.length = 61 := rfl
theorem Wok.cell {w : World} (h : Wok w) (m : Nat) (hm : m < 61) : w.cell? ⟨0, 2 * m, none⟩ = some (.string (entS m)) ∧ w.cell? ⟨0, 2 * m + 1, none⟩ = some (.string (entT m)) := by
  obtain ⟨t, fz, h⟩ := h
  have hx : entTab[m]? = some (entTab.getD m ([], [])) := by
    rw [List.getD_eq_getElem?_getD, List.getElem?_eq_getElem (by rw [entLen]; exact hm), Option.getD_some]
  have := flat2 (fun x : List UInt8 × List UInt8 => Value.string ⟨x.1.toArray⟩) (fun x => Value.string ⟨x.2.toArray⟩) entTab m _ hx
  constructor
  · simp only [World.cell?, h, List.getElem?_toArray]
    exact this.1
  · simp only [World.cell?, h, List.getElem?_toArray]
    exact this.2
theorem of_rows2 {α : Type} (f g : α → Value) : ∀ (rows : List α) (l : List Value), l.length = 2 * rows.length → (∀ m x, rows[m]? = some x → (l.drop (m * 2)).take 2 = [f x, g x]) → l = rows.flatMap fun x => [f x, g x]
  | [], l, h, _ => by
    cases l with
    | nil => rfl
    | cons _ _ => simp at h
  | x :: r, l, h, hm => by
    have h0 := hm 0 x rfl
    match l, h with
    | [], h => simp at h
    | [a], h => simp at h; omega
    | a :: b :: l', h =>
      have e : [a, b] = [f x, g x] := by simpa using h0
      obtain ⟨rfl, rfl⟩ : a = f x ∧ b = g x := by simpa using e
      have ih := of_rows2 f g r l' (by simp at h; omega) (fun m y hy => by
        have := hm (m + 1) y (by simpa using hy)
        rw [show (m + 1) * 2 = m * 2 + 2 by omega] at this
        simpa using this)
      show _ = f x :: g x :: r.flatMap _
      rw [← ih]
def entData : DataW Unit := .agg (entTab.map fun x => .agg [.lit (.string x.1), .lit (.string x.2)])
theorem Wok_of_reads {W : World} (h : Lib.VarReads Tryd.prog W "decanter/entity.table" entData) : Wok W := by
  obtain ⟨g, t, cs, fuel, p, hg, ht, hv, hd⟩ := h
  obtain rfl := Option.some.inj ((show Tryd.prog.globalNamed "decanter/entity.table" = some 0 by kernel_rfl).symm.trans hg)
  obtain rfl := Option.some.inj ((show (Tryd.prog.globals[0]?).map (·.type) = some 59 by kernel_rfl).symm.trans ht)
  have cE : Tryd.prog.cellsOf 58 = 2 := by kernel_rfl
  have cA : Tryd.prog.cellsOf 59 = 122 := by kernel_rfl
  have cS : Tryd.prog.cellsOf 9 = 1 := by kernel_rfl
  have hlen : cs.toList.length = 122 := by
    obtain ⟨_, _, _, _, hl, _⟩ := DataW.trod_array Tryd.underlying59 hd
    rw [hl, cA]
  have hcs : cs.toList = entCells := by
    refine of_rows2 _ _ entTab cs.toList (by rw [hlen]; rfl) fun m x hx => ?_
    have hm : m < 61 := by
      have := (List.getElem?_eq_some_iff.1 hx).1
      rwa [entLen] at this
    obtain ⟨fuel', d, q, hdi, he⟩ := Lib.array_elem Tryd.underlying59 hd m hm
    rw [List.getElem?_map, hx, Option.map_some] at hdi
    obtain rfl := Option.some.inj hdi
    rw [cE] at he
    obtain ⟨y0, y1, n, hy, hl, h0, h1⟩ := Go.ChangeShapes.trod_struct2 Tryd.underlying58 he
    rw [cE] at hl
    have hy' := congrArg Prod.fst hy
    simp only [DataW.agg.injEq, List.cons.injEq, and_true] at hy'
    obtain ⟨s0, hc0, hz0, _⟩ := DataW.trod_string Tryd.underlying9 h0
    obtain ⟨s1, hc1, hz1, _⟩ := DataW.trod_string Tryd.underlying9 h1
    rw [hz0, hz1] at hy'
    simp only [DataW.lit.injEq, Lit.string.injEq] at hy'
    rw [show Tryd.prog.cellsOf _ = 1 from cS] at hc0 hc1
    generalize (cs.toList.drop (m * 2)).take 2 = l at hl hc0 hc1 ⊢
    match l, hl with
    | [a, b], _ =>
      have e0 : a = .string s0 := by simpa using hc0
      have e1 : b = .string s1 := by simpa using hc1
      rw [e0, e1, hy'.1, hy'.2]
  unfold World.var? at hv
  rw [show Tryd.prog.globalNamed "decanter/entity.table" = some 0 by kernel_rfl, Option.bind_some] at hv
  split at hv
  · rename_i c2 t fz hh
    obtain rfl := Option.some.inj hv
    refine ⟨t, fz, ?_⟩
    rw [← hcs]
    exact hh
  · cases hv
theorem Wok_of_laid {W : World} (h : laidMetH Tryd.prog Rows.entityTextsRow.laid W) : Wok W := by
  rw [MakeChecks.laidMetH_plain _ _ _ (by kernel_rfl)] at h
  exact Wok_of_reads ((show (Rows.laid_decanter_entity_table : DataW Unit) = entData by kernel_rfl) ▸ Lib.laidMet.reads h (List.mem_cons_self ..))

/-! ### entity_get: function 27 -/
def entity_get.less (t : Nat) (x : ByteArray) : Bool := Op.bytesLess (entS t).toList x.toList
def entity_get.bs (x : ByteArray) : Nat → Nat → Nat → Nat
  | 0, lo, _ => lo
  | f + 1, lo, hi => if lo < hi then (if entity_get.less ((lo + hi) / 2) x then entity_get.bs x f ((lo + hi) / 2 + 1) hi else entity_get.bs x f lo ((lo + hi) / 2)) else lo
theorem entity_get.bs_fuel (x : ByteArray) : ∀ (f g lo hi : Nat), hi - lo ≤ f → hi - lo ≤ g → entity_get.bs x f lo hi = entity_get.bs x g lo hi
  | 0, 0, _, _, _, _ => rfl
  | 0, g + 1, lo, hi, hf, _ => by simp [entity_get.bs, show ¬ lo < hi by omega]
  | f + 1, 0, lo, hi, _, hg => by simp [entity_get.bs, show ¬ lo < hi by omega]
  | f + 1, g + 1, lo, hi, hf, hg => by
    unfold entity_get.bs
    by_cases h : lo < hi
    · rw [if_pos h, if_pos h, entity_get.bs_fuel x f g _ _ (by omega) (by omega), entity_get.bs_fuel x f g lo _ (by omega) (by omega)]
    · rw [if_neg h, if_neg h]
/-- The place at which the halving ends. -/
def entity_get.at_ (x : ByteArray) : Nat := entity_get.bs x 61 0 61
def entity_get.is (x : ByteArray) : Bool := decide (entity_get.at_ x < 61) && ((entS (entity_get.at_ x)).toList == x.toList)
def entity_get.f (x : ByteArray) : Option (ByteArray × Bool) := some (if entity_get.is x then (entT (entity_get.at_ x), true) else (⟨#[]⟩, false))
def entity_get.cmp (a x : ByteArray) : Int := if Op.bytesLess a.toList x.toList then -1 else if a.toList == x.toList then 0 else 1
theorem entity_get.nan (x : ByteArray) (w : World) : Calls Tryd.prog 54 #[.string x] w fun e w' => e = .returned (.bool false) ∧ w' = w := by
  go_enter Tryd.func54, Tryd.ntmps54
  go_wp2
  go_ret
  exact ⟨by simp, rfl⟩
theorem entity_get.compare (a x : ByteArray) (w : World) : Calls Tryd.prog 44 #[.string a, .string x] w fun e w' => e = .returned (.int .i64 (entity_get.cmp a x)) ∧ w' = w := by
  unfold entity_get.cmp
  cases h1 : Op.bytesLess a.toList x.toList <;> cases h2 : (a.toList == x.toList)
  all_goals
    go_enter Tryd.func44, Tryd.ntmps44
    go_wp2_with (go_at_call 54; refine (entity_get.nan _ _).mono ?_; rintro e w' ⟨rfl, rfl⟩)
    go_ret
    exact ⟨rfl, rfl⟩
theorem entity_get.closure (a b x : ByteArray) (w : World) : Calls Tryd.prog 43 #[.agg #[.string a, .string b], .string x] w fun e w' => e = .returned (.int .i64 (entity_get.cmp a x)) ∧ Below w.heap.size w w' := by
  go_enter Tryd.func43, Tryd.ntmps43
  go_wp2_with (go_at_call 44; refine (entity_get.compare _ _ _).mono ?_; rintro e w' ⟨rfl, rfl⟩)
  go_ret
  exact ⟨rfl, by go_grown⟩
set_option maxHeartbeats 4000000 in
set_option maxRecDepth 1000000 in
theorem entity_get.search (x : ByteArray) (w : World) (hW : Wok w) : Calls Tryd.prog 42 #[.slice (some ⟨0, 0, none⟩) 61 61, .string x, .func (.func 43) #[] #[]] w fun e w' =>
    e = .returned (.tuple #[.int .i64 (entity_get.at_ x : Nat), .bool (entity_get.is x)]) ∧ Below w.heap.size w w' := by
  have HW := Lib.hid hW
  clear hW
  obtain ⟨I, hI⟩ : ∃ I, entity_get.at_ x = I := ⟨_, rfl⟩
  unfold entity_get.is
  rw [hI]
  have hI2 : entity_get.bs x 61 0 61 = I := hI
  clear hI
  go_enter Tryd.func42, Tryd.ntmps42
  go_wp2
  go_loopg [9, 10] 61 (fun g s9 s10 wr => ∃ lo hi : Nat, s9 = .int .i64 lo ∧ s10 = .int .i64 hi ∧ lo ≤ hi ∧ hi ≤ 61 ∧ hi - lo ≤ g ∧ Hid (Below w.heap.size w wr) ∧ Hid (entity_get.bs x g lo hi = I))
  case atStart => exact ⟨0, 61, rfl, rfl, Nat.zero_le _, Nat.le_refl _, by omega, Lib.hid (Below.refl _ _), Lib.hid hI2⟩
  case round =>
    clear hI2
    obtain ⟨lo, hi, rfl, rfl, hlh, hin, hg, HB, HL⟩ := hrel
    by_cases hlt : lo < hi
    · have cm := (Wok_below HW.out HB.out).cell ((lo + hi) / 2) (by omega)
      obtain ⟨c1, c2⟩ := cm
      obtain ⟨g', rfl⟩ : ∃ g', gk = g' + 1 := ⟨gk - 1, by omega⟩
      have hb := HL.out
      clear HL
      rw [entity_get.bs, if_pos hlt] at hb
      have HC := Lib.hid (fun W : World => entity_get.closure (entS ((lo + hi) / 2)) (entT ((lo + hi) / 2)) x W)
      unfold entity_get.less at hb
      rw [Nat.mul_comm] at c1 c2
      generalize entS ((lo + hi) / 2) = y at *
      generalize entT ((lo + hi) / 2) = z at *
      obtain ⟨c, hc⟩ : ∃ c, entity_get.cmp y x = c := ⟨_, rfl⟩
      rw [hc] at HC
      cases hyx : Op.bytesLess y.toList x.toList
      · have hc0 : ¬ c < 0 := by
          rw [← hc]
          unfold entity_get.cmp
          rw [hyx]
          split
          · contradiction
          · split <;> decide
        rw [hyx] at hb
        have HL := Lib.hid hb
        clear hb hc hyx
        go_wp2_with (go_at_call 43; refine (HC.out _).mono ?_; rintro e w' ⟨rfl, hb1⟩)
        go_roundg ((lo + hi) / 2 - lo)
        case measure => omega
        case rel => exact ⟨lo, (lo + hi) / 2, rfl, by rw [show ((lo : Int) + (hi : Int)) / 2 = (((lo + hi) / 2 : Nat) : Int) by omega], by omega, by omega, Nat.le_refl _, Lib.hid (HB.out.trans (hb1.mono HB.out.size)), Lib.hid (by rw [← HL.out]; exact entity_get.bs_fuel _ _ _ _ _ (Nat.le_refl _) (by omega))⟩
      · have hc0 : c < 0 := by
          rw [← hc]
          unfold entity_get.cmp
          rw [hyx, if_pos rfl]
          decide
        rw [hyx] at hb
        have HL := Lib.hid hb
        clear hb hc hyx
        go_wp2_with (go_at_call 43; refine (HC.out _).mono ?_; rintro e w' ⟨rfl, hb1⟩)
        go_roundg (hi - ((lo + hi) / 2 + 1))
        case measure => omega
        case rel => exact ⟨(lo + hi) / 2 + 1, hi, by rw [show ((lo : Int) + (hi : Int)) / 2 + 1 = (((lo + hi) / 2 + 1 : Nat) : Int) by omega], rfl, by omega, hin, Nat.le_refl _, Lib.hid (HB.out.trans (hb1.mono HB.out.size)), Lib.hid (by rw [← HL.out]; exact entity_get.bs_fuel _ _ _ _ _ (Nat.le_refl _) (by omega))⟩
    · obtain rfl : hi = lo := by omega
      have hIe : I = hi := by
        rw [← HL.out]
        cases gk <;> simp [entity_get.bs]
      subst hIe
      clear HL
      by_cases hn : I < 61
      · obtain ⟨c1, c2⟩ := (Wok_below HW.out HB.out).cell I hn
        have HC := Lib.hid (fun W : World => entity_get.closure (entS I) (entT I) x W)
        rw [Nat.mul_comm] at c1 c2
        obtain ⟨y, hy⟩ : ∃ y, entS I = y := ⟨_, rfl⟩
        obtain ⟨z, hz⟩ : ∃ z, entT I = z := ⟨_, rfl⟩
        rw [hy] at c1 HC
        rw [hz] at c2 HC
        have HY := Lib.hid hy
        clear hy hz
        obtain ⟨c, hc⟩ : ∃ c, entity_get.cmp y x = c := ⟨_, rfl⟩
        rw [hc] at HC
        by_cases hc0 : c = 0
        · have heq : (y.toList == x.toList) = true := by
            subst hc0
            unfold entity_get.cmp at hc
            split at hc
            · cases hc
            · split at hc
              · assumption
              · cases hc
          have HE := Lib.hid heq
          clear heq
          subst hc0
          clear hc
          go_wp2_with (go_at_call 43; refine (HC.out _).mono ?_; rintro e w' ⟨rfl, hb1⟩)
          go_ret2
          refine ⟨?_, HB.out.trans (hb1.mono HB.out.size)⟩
          rw [HY.out, HE.out, decide_eq_true hn]
          rfl
        · have heq : (y.toList == x.toList) = false := by
            rw [← hc] at hc0
            unfold entity_get.cmp at hc0
            cases he : (y.toList == x.toList) with
            | false => rfl
            | true =>
              rw [he] at hc0
              have : y.toList = x.toList := by simpa using he
              rw [this, bytesLess_eq] at hc0
              simp at hc0
          have HE := Lib.hid heq
          clear heq hc
          go_wp2_with (go_at_call 43; refine (HC.out _).mono ?_; rintro e w' ⟨rfl, hb1⟩)
          go_ret2
          refine ⟨?_, HB.out.trans (hb1.mono HB.out.size)⟩
          rw [HY.out, HE.out, Bool.and_false]
          rw [show (Value.bool false) = Value.bool (c == 0) from congrArg Value.bool (beq_eq_false_iff_ne.2 hc0).symm]
          rfl
      · go_wp2
        go_ret2
        refine ⟨?_, HB.out⟩
        first
          | rfl
          | (rw [decide_eq_false hn, Bool.false_and]; rfl)
set_option maxHeartbeats 4000000 in
set_option maxRecDepth 1000000 in
theorem entity_get.calls (x : ByteArray) (r1 : ByteArray) (r2 : Bool) (w : World) (hW : Wok w) (h : entity_get.f x = some (r1, r2)) :
    Calls Tryd.prog 27 #[.string x] w fun e w' => e = .returned (.tuple #[.string r1, .bool r2]) ∧ Below w.heap.size w w' := by
  have HW := Lib.hid hW
  have HS := Lib.hid (entity_get.search x w hW)
  clear hW
  unfold entity_get.f at h
  cases hi : entity_get.is x with
  | false =>
    rw [hi] at h
    obtain ⟨rfl, rfl⟩ := Prod.mk.inj (Option.some.inj h)
    rw [hi] at HS
    clear hi h
    go_enter Tryd.func27, Tryd.ntmps27
    go_wp2_with (go_at_call 42; refine HS.out.mono ?_; rintro e w' ⟨rfl, hb1⟩)
    go_ret2
    exact ⟨rfl, hb1⟩
  | true =>
    rw [hi] at h
    obtain ⟨rfl, rfl⟩ := Prod.mk.inj (Option.some.inj h)
    rw [hi] at HS
    have hlt : entity_get.at_ x < 61 := by
      unfold entity_get.is at hi
      rw [Bool.and_eq_true] at hi
      exact of_decide_eq_true hi.1
    clear hi h
    generalize entity_get.at_ x = I at *
    go_enter Tryd.func27, Tryd.ntmps27
    go_wp2_with (go_at_call 42; refine HS.out.mono ?_; rintro e w' ⟨rfl, hb1⟩; obtain ⟨c1, c2⟩ := (Wok_below HW.out hb1).cell I hlt; rw [Nat.mul_comm] at c1 c2)
    go_ret2
    exact ⟨rfl, hb1⟩

/-! ### entity_Find: function 14 -/
def entity_Find.l0 : Nat → ByteArray → Int → Option (Int × ByteArray)
  | 0, _, _ => none
  | k + 1, x0, x4 => if x4 > 0 then (if 0 ≤ x4 then (if x4 ≤ (x0.size : Int) then ((entity_get.f (x0.extract 0 (x4 : Int).toNat)).bind fun bt101 => (if bt101.2 = true then (some (x4, bt101.1)) else (entity_Find.l0 k x0 (wrap64 (x4 - 1))))) else (none)) else (none)) else (some (0, (⟨#[]⟩ : ByteArray)))
def entity_Find.f (k : Nat) (a0 : ByteArray) : Option (Int × ByteArray) := entity_Find.l0 k a0 (mn (a0.size : Int) 8)
theorem entity_Find.mono_l : ∀ k, (∀ y0 y1, LeO (entity_Find.l0 k y0 y1) (entity_Find.l0 (k + 1) y0 y1))
  | 0 => fun _ _ r h => by simp [entity_Find.l0] at h
  | k + 1 => by
    have ih0 := entity_Find.mono_l k
    · intro y0 y1
      unfold entity_Find.l0
      repeat' first
      | (with_reducible exact ih0 _ _)
      | (with_reducible exact LeO.refl _)
      | (with_reducible exact LeO.none _)
      | (with_reducible refine LeO.ite ?_ ?_)
      | (with_reducible refine LeO.bind ?_ (fun _ => ?_))
      | exact ih0 _ _
      | exact LeO.none _
      | refine LeO.ite ?_ ?_
      | refine LeO.bind ?_ (fun _ => ?_)
theorem entity_Find.mono : ∀ a0 k, LeO (entity_Find.f k a0) (entity_Find.f (k + 1) a0) := by
  intro a0 k
  have ih0 := entity_Find.mono_l k
  unfold entity_Find.f
  repeat' first
      | (with_reducible exact ih0 _ _)
      | (with_reducible exact LeO.refl _)
      | (with_reducible exact LeO.none _)
      | (with_reducible refine LeO.ite ?_ ?_)
      | (with_reducible refine LeO.bind ?_ (fun _ => ?_))
      | exact ih0 _ _
      | exact LeO.none _
      | refine LeO.ite ?_ ?_
      | refine LeO.bind ?_ (fun _ => ?_)
set_option maxHeartbeats 8000000 in
set_option maxRecDepth 100000 in
theorem entity_Find.calls (k : Nat) (a0 : ByteArray) (r1 : Int) (r2 : ByteArray) (w : World) (hW : Wok w) (h : entity_Find.f k a0 = some (r1, r2)) :
    Calls Tryd.prog 14 #[.string a0] w fun e w' => e = .returned (.tuple #[.int .i64 r1, .string r2]) ∧ Below w.heap.size w w' := by
  have HB := Aside0.mk (Below.refl w.heap.size w)
  have H : (entity_Find.l0 k a0 (mn (a0.size : Int) 8)) = some (r1, r2) := h
  clear h
  obtain ⟨ji2, hji2⟩ : ∃ j_ : Int, (mn (a0.size : Int) 8) = j_ := ⟨_, rfl⟩
  replace H : (entity_Find.l0 k a0 ji2) = some (r1, r2) := by first | (rw [hji2] at H; exact H) | (simp only [hji2] at H ⊢; exact H)
  (try (have hji2h : ji2 ≤ 8 := by (rw [← hji2]; unfold mn; (repeat' split) <;> omega)))
  (try (have hji2g : ji2 ≤ 64 := by omega))
  (try (have hji2l : 0 ≤ ji2 := by (rw [← hji2]; unfold mn; (repeat' split) <;> omega)))
  (try (have hji2m : 0 ≤ ji2 := by omega))
  have hji2_ : (if 8 < (a0.size : Int) then 8 else (a0.size : Int)) = ji2 := hji2
  have H' := Aside0.mk H
  clear H
  go_enter Tryd.func14, Tryd.ntmps14
  go_wp2
  go_loopg [4] k (fun kq v4 w' => ∃ (x4_1 : Int), v4 = .int .i64 x4_1 ∧ Aside0 (entity_Find.l0 kq a0 x4_1 = some (r1, r2)) ∧ Aside0 (kq ≤ k) ∧ Aside0 (Below w.heap.size w w'))
  case atStart => exact ⟨(ji2), (by first | rfl | (simp; done) | (simp only [← hji2] <;> (first | rfl | simp)) | (simp [*]; done)), H', ⟨Nat.le_refl _⟩, ⟨by repeat (first | (with_reducible first | exact HB.out | apply below_alloc | apply pw_below_drewN | apply below_drew1) | exact HB.out)⟩⟩
  case round =>
    clear H'
    try clear c1
    try clear p2
    obtain ⟨x4_1, rfl, HA, HK1, HB⟩ := hrel
    cases gk with
    | zero => exact absurd HA.out (by simp [entity_Find.l0])
    | succ k1 =>
      have H := HA.out
      clear HA
      simp only [entity_Find.l0] at H
      by_cases c3 : x4_1 > 0
      · rw [if_pos c3] at H
        have c3b0 : decide (0 < x4_1) = true := decide_eq_true c3
        clear c3
        by_cases c4 : 0 ≤ x4_1
        · rw [if_pos c4] at H
          have c4b0 := eq_true c4
          have c4b1 : decide (0 ≤ x4_1) = true := decide_eq_true c4
          clear c4
          by_cases c5 : x4_1 ≤ (a0.size : Int)
          · rw [if_pos c5] at H
            have c5b0 := eq_true c5
            have c5b1 : decide (x4_1 ≤ (a0.size : Int)) = true := decide_eq_true c5
            clear c5
            replace H := Option.bind_eq_some_iff.mp H
            obtain ⟨⟨t101, t102⟩, A60, H⟩ := H
            replace H : (if t102 = true then (some (x4_1, t101)) else (entity_Find.l0 k1 a0 (wrap64 (x4_1 - 1)))) = some (r1, r2) := H
            have A6 := Aside0.mk A60
            clear A60
            by_cases c7 : t102 = true
            · subst c7
              have H1 : (some (x4_1, t101)) = some (r1, r2) := by rw [if_pos rfl] at H; exact H
              clear H
              have H := H1
              clear H1
              simp only [Option.some.injEq, Prod.mk.injEq] at H
              obtain ⟨rfl, rfl⟩ := H
              go_wp2_with (first | ((with_reducible refine gate_callee (f := 27) rfl ?_); refine goesL_ (some 18) rfl rfl Tryd.func27 (by kernel_rfl) rfl #[.string (a0.extract 0 (x4_1 : Int).toNat)] rfl (by (try simp only [List.map_toArray, List.map_cons, List.map_nil]); first | done | rfl | (simp only [List.length_drop, List.length_take]; rfl)) ?_; (with_reducible refine (entity_get.calls (a0.extract 0 (x4_1 : Int).toNat) t101 true _ (Wok_below hW (by repeat (first | (with_reducible first | exact HB.out | apply below_alloc | apply pw_below_drewN | apply below_drew1) | exact HB.out))) A6.out).mono ?_); rintro e w8 ⟨rfl, hb⟩; refine ⟨_, rfl, ?_⟩; have n0_ := Aside0.mk (below_step (by repeat (first | (with_reducible first | exact HB.out | apply below_alloc | apply pw_below_drewN | apply below_drew1) | exact HB.out)) hb); clear HB; have HB := n0_; clear n0_; (try clear hb); (try clear hb2); (try clear hk); (try clear hi)))
              go_ret2
              exact ⟨by first | rfl | (simp [errW_none, errW_some] <;> rfl) | (simp only [← hji2]; first | rfl | (simp [errW_none, errW_some] <;> rfl)) | (simp [*, errW_none, errW_some] <;> rfl), by repeat (first | (with_reducible first | exact HB.out | apply below_alloc | apply pw_below_drewN | apply below_drew1) | exact HB.out)⟩
            · replace c7 := Bool.eq_false_iff.mpr c7
              subst c7
              have H1 : (entity_Find.l0 k1 a0 (wrap64 (x4_1 - 1))) = some (r1, r2) := by rw [if_neg (show ¬ (false = true) by decide)] at H; exact H
              clear H
              have H := H1
              clear H1
              have H' := Aside0.mk H
              clear H
              go_wp2_with (first | ((with_reducible refine gate_callee (f := 27) rfl ?_); refine goesL_ (some 18) rfl rfl Tryd.func27 (by kernel_rfl) rfl #[.string (a0.extract 0 (x4_1 : Int).toNat)] rfl (by (try simp only [List.map_toArray, List.map_cons, List.map_nil]); first | done | rfl | (simp only [List.length_drop, List.length_take]; rfl)) ?_; (with_reducible refine (entity_get.calls (a0.extract 0 (x4_1 : Int).toNat) t101 false _ (Wok_below hW (by repeat (first | (with_reducible first | exact HB.out | apply below_alloc | apply pw_below_drewN | apply below_drew1) | exact HB.out))) A6.out).mono ?_); rintro e w9 ⟨rfl, hb⟩; refine ⟨_, rfl, ?_⟩; have n0_ := Aside0.mk (below_step (by repeat (first | (with_reducible first | exact HB.out | apply below_alloc | apply pw_below_drewN | apply below_drew1) | exact HB.out)) hb); clear HB; have HB := n0_; clear n0_; (try clear hb); (try clear hb2); (try clear hk); (try clear hi)))
              go_roundg k1
              case measure => have := HK1.out; omega
              case rel => exact ⟨(wrap64 (x4_1 - 1)), (by first | rfl | (simp; done) | (simp [*]; done)), H', ⟨by have := HK1.out; omega⟩, ⟨by repeat (first | (with_reducible first | exact HB.out | apply below_alloc | apply pw_below_drewN | apply below_drew1) | exact HB.out)⟩⟩
          · rw [if_neg c5] at H
            exact absurd H (by simp)
        · rw [if_neg c4] at H
          exact absurd H (by simp)
      · rw [if_neg c3] at H
        have c3b0 : decide (0 < x4_1) = false := decide_eq_false c3
        clear c3
        simp only [Option.some.injEq, Prod.mk.injEq] at H
        obtain ⟨rfl, rfl⟩ := H
        go_wp2
        go_ret2
        exact ⟨by first | rfl | (simp [errW_none, errW_some] <;> rfl) | (simp only [← hji2]; first | rfl | (simp [errW_none, errW_some] <;> rfl)) | (simp [*, errW_none, errW_some] <;> rfl), by repeat (first | (with_reducible first | exact HB.out | apply below_alloc | apply pw_below_drewN | apply below_drew1) | exact HB.out)⟩

/-! ### decanterlaw04_speaks: function 13 -/
def decanterlaw04_speaks.f (k : Nat)  : Option (Bool) := (entity_Find.f k (⟨#[110, 111, 116, 105, 116]⟩ : ByteArray)).bind fun bt103 => ((entity_Find.f k (⟨#[110, 111, 116, 105, 110, 59]⟩ : ByteArray)).bind fun bt105 => (if bt103.1 = 3 then (if bt103.2.toList = ([194, 172] : List UInt8) then (if bt105.1 = 6 then (some (bt105.2.toList == ([226, 136, 137] : List UInt8))) else (some false)) else (some false)) else (some false)))
theorem decanterlaw04_speaks.mono : ∀ k, LeO (decanterlaw04_speaks.f k ) (decanterlaw04_speaks.f (k + 1) ) := by
  intro  k
  unfold decanterlaw04_speaks.f
  repeat' first
      | (with_reducible exact entity_Find.mono _ _)
      | (with_reducible exact LeO.refl _)
      | (with_reducible exact LeO.none _)
      | (with_reducible refine LeO.ite ?_ ?_)
      | (with_reducible refine LeO.bind ?_ (fun _ => ?_))
      | exact entity_Find.mono _ _
      | exact LeO.none _
      | refine LeO.ite ?_ ?_
      | refine LeO.bind ?_ (fun _ => ?_)
set_option maxHeartbeats 8000000 in
set_option maxRecDepth 100000 in
theorem decanterlaw04_speaks.calls (k : Nat)  (r : Bool) (w : World) (hW : Wok w) (h : decanterlaw04_speaks.f k  = some r) :
    Calls Tryd.prog 13 #[] w fun e w' => e = .returned (.bool r) ∧ Below w.heap.size w w' := by
  have HB := Aside0.mk (Below.refl w.heap.size w)
  have H : ((entity_Find.f k (⟨#[110, 111, 116, 105, 116]⟩ : ByteArray)).bind fun bt103 => ((entity_Find.f k (⟨#[110, 111, 116, 105, 110, 59]⟩ : ByteArray)).bind fun bt105 => (if bt103.1 = 3 then (if bt103.2.toList = ([194, 172] : List UInt8) then (if bt105.1 = 6 then (some (bt105.2.toList == ([226, 136, 137] : List UInt8))) else (some false)) else (some false)) else (some false)))) = some r := h
  clear h
  replace H := Option.bind_eq_some_iff.mp H
  obtain ⟨⟨t103, t104⟩, A10, H⟩ := H
  replace H : ((entity_Find.f k (⟨#[110, 111, 116, 105, 110, 59]⟩ : ByteArray)).bind fun bt105 => (if t103 = 3 then (if t104.toList = ([194, 172] : List UInt8) then (if bt105.1 = 6 then (some (bt105.2.toList == ([226, 136, 137] : List UInt8))) else (some false)) else (some false)) else (some false))) = some r := H
  have A1 := Aside0.mk A10
  clear A10
  replace H := Option.bind_eq_some_iff.mp H
  obtain ⟨⟨t105, t106⟩, A20, H⟩ := H
  replace H : (if t103 = 3 then (if t104.toList = ([194, 172] : List UInt8) then (if t105 = 6 then (some (t106.toList == ([226, 136, 137] : List UInt8))) else (some false)) else (some false)) else (some false)) = some r := H
  have A2 := Aside0.mk A20
  clear A20
  by_cases c3 : t103 = 3
  · rw [if_pos c3] at H
    have c3b0 : (t103 == 3) = true := beq_iff_eq.mpr c3
    have c3b1 : (t103 != 3) = false := bne_eq_false_iff_eq.mpr c3
    clear c3
    by_cases c4 : t104.toList = ([194, 172] : List UInt8)
    · rw [if_pos c4] at H
      have c4b0 : (t104.toList == ([194, 172] : List UInt8)) = true := beq_iff_eq.mpr c4
      have c4b1 : (t104.toList != ([194, 172] : List UInt8)) = false := bne_eq_false_iff_eq.mpr c4
      clear c4
      by_cases c5 : t105 = 6
      · rw [if_pos c5] at H
        have c5b0 : (t105 == 6) = true := beq_iff_eq.mpr c5
        have c5b1 : (t105 != 6) = false := bne_eq_false_iff_eq.mpr c5
        clear c5
        obtain rfl := Option.some.inj H
        go_enter Tryd.func13, Tryd.ntmps13
        go_wp2_with (first | ((with_reducible refine gate_callee (f := 14) rfl ?_); refine goesL_ (some 6) rfl rfl Tryd.func14 (by kernel_rfl) rfl #[.string (⟨#[110, 111, 116, 105, 116]⟩ : ByteArray)] rfl (by (try simp only [List.map_toArray, List.map_cons, List.map_nil]); first | done | rfl | (simp only [List.length_drop, List.length_take]; rfl)) ?_; (with_reducible refine (entity_Find.calls k (⟨#[110, 111, 116, 105, 116]⟩ : ByteArray) t103 t104 _ (Wok_below hW (by repeat (first | (with_reducible first | exact HB.out | apply below_alloc | apply pw_below_drewN | apply below_drew1) | exact HB.out))) A1.out).mono ?_); rintro e w6 ⟨rfl, hb⟩; refine ⟨_, rfl, ?_⟩; have n0_ := Aside0.mk (below_step (by repeat (first | (with_reducible first | exact HB.out | apply below_alloc | apply pw_below_drewN | apply below_drew1) | exact HB.out)) hb); clear HB; have HB := n0_; clear n0_; (try clear hb); (try clear hb2); (try clear hk); (try clear hi)) | ((with_reducible refine gate_callee (f := 14) rfl ?_); refine goesL_ (some 10) rfl rfl Tryd.func14 (by kernel_rfl) rfl #[.string (⟨#[110, 111, 116, 105, 110, 59]⟩ : ByteArray)] rfl (by (try simp only [List.map_toArray, List.map_cons, List.map_nil]); first | done | rfl | (simp only [List.length_drop, List.length_take]; rfl)) ?_; (with_reducible refine (entity_Find.calls k (⟨#[110, 111, 116, 105, 110, 59]⟩ : ByteArray) t105 t106 _ (Wok_below hW (by repeat (first | (with_reducible first | exact HB.out | apply below_alloc | apply pw_below_drewN | apply below_drew1) | exact HB.out))) A2.out).mono ?_); rintro e w7 ⟨rfl, hb⟩; refine ⟨_, rfl, ?_⟩; have n0_ := Aside0.mk (below_step (by repeat (first | (with_reducible first | exact HB.out | apply below_alloc | apply pw_below_drewN | apply below_drew1) | exact HB.out)) hb); clear HB; have HB := n0_; clear n0_; (try clear hb); (try clear hb2); (try clear hk); (try clear hi)))
        go_ret
        exact ⟨by first | rfl | (simp [errW_none, errW_some] <;> rfl) | (simp [*, errW_none, errW_some] <;> rfl), by repeat (first | (with_reducible first | exact HB.out | apply below_alloc | apply pw_below_drewN | apply below_drew1) | exact HB.out)⟩
      · rw [if_neg c5] at H
        have c5b0 : (t105 == 6) = false := beq_eq_false_iff_ne.mpr c5
        have c5b1 : (t105 != 6) = true := bne_iff_ne.mpr c5
        obtain rfl := Option.some.inj H
        go_enter Tryd.func13, Tryd.ntmps13
        go_wp2_with (first | ((with_reducible refine gate_callee (f := 14) rfl ?_); refine goesL_ (some 6) rfl rfl Tryd.func14 (by kernel_rfl) rfl #[.string (⟨#[110, 111, 116, 105, 116]⟩ : ByteArray)] rfl (by (try simp only [List.map_toArray, List.map_cons, List.map_nil]); first | done | rfl | (simp only [List.length_drop, List.length_take]; rfl)) ?_; (with_reducible refine (entity_Find.calls k (⟨#[110, 111, 116, 105, 116]⟩ : ByteArray) t103 t104 _ (Wok_below hW (by repeat (first | (with_reducible first | exact HB.out | apply below_alloc | apply pw_below_drewN | apply below_drew1) | exact HB.out))) A1.out).mono ?_); rintro e w8 ⟨rfl, hb⟩; refine ⟨_, rfl, ?_⟩; have n0_ := Aside0.mk (below_step (by repeat (first | (with_reducible first | exact HB.out | apply below_alloc | apply pw_below_drewN | apply below_drew1) | exact HB.out)) hb); clear HB; have HB := n0_; clear n0_; (try clear hb); (try clear hb2); (try clear hk); (try clear hi)) | ((with_reducible refine gate_callee (f := 14) rfl ?_); refine goesL_ (some 10) rfl rfl Tryd.func14 (by kernel_rfl) rfl #[.string (⟨#[110, 111, 116, 105, 110, 59]⟩ : ByteArray)] rfl (by (try simp only [List.map_toArray, List.map_cons, List.map_nil]); first | done | rfl | (simp only [List.length_drop, List.length_take]; rfl)) ?_; (with_reducible refine (entity_Find.calls k (⟨#[110, 111, 116, 105, 110, 59]⟩ : ByteArray) t105 t106 _ (Wok_below hW (by repeat (first | (with_reducible first | exact HB.out | apply below_alloc | apply pw_below_drewN | apply below_drew1) | exact HB.out))) A2.out).mono ?_); rintro e w9 ⟨rfl, hb⟩; refine ⟨_, rfl, ?_⟩; have n0_ := Aside0.mk (below_step (by repeat (first | (with_reducible first | exact HB.out | apply below_alloc | apply pw_below_drewN | apply below_drew1) | exact HB.out)) hb); clear HB; have HB := n0_; clear n0_; (try clear hb); (try clear hb2); (try clear hk); (try clear hi)))
        go_ret
        exact ⟨by first | rfl | (simp [errW_none, errW_some] <;> rfl) | (simp [*, errW_none, errW_some] <;> rfl), by repeat (first | (with_reducible first | exact HB.out | apply below_alloc | apply pw_below_drewN | apply below_drew1) | exact HB.out)⟩
    · rw [if_neg c4] at H
      have c4b0 : (t104.toList == ([194, 172] : List UInt8)) = false := beq_eq_false_iff_ne.mpr c4
      have c4b1 : (t104.toList != ([194, 172] : List UInt8)) = true := bne_iff_ne.mpr c4
      obtain rfl := Option.some.inj H
      go_enter Tryd.func13, Tryd.ntmps13
      go_wp2_with (first | ((with_reducible refine gate_callee (f := 14) rfl ?_); refine goesL_ (some 6) rfl rfl Tryd.func14 (by kernel_rfl) rfl #[.string (⟨#[110, 111, 116, 105, 116]⟩ : ByteArray)] rfl (by (try simp only [List.map_toArray, List.map_cons, List.map_nil]); first | done | rfl | (simp only [List.length_drop, List.length_take]; rfl)) ?_; (with_reducible refine (entity_Find.calls k (⟨#[110, 111, 116, 105, 116]⟩ : ByteArray) t103 t104 _ (Wok_below hW (by repeat (first | (with_reducible first | exact HB.out | apply below_alloc | apply pw_below_drewN | apply below_drew1) | exact HB.out))) A1.out).mono ?_); rintro e w10 ⟨rfl, hb⟩; refine ⟨_, rfl, ?_⟩; have n0_ := Aside0.mk (below_step (by repeat (first | (with_reducible first | exact HB.out | apply below_alloc | apply pw_below_drewN | apply below_drew1) | exact HB.out)) hb); clear HB; have HB := n0_; clear n0_; (try clear hb); (try clear hb2); (try clear hk); (try clear hi)) | ((with_reducible refine gate_callee (f := 14) rfl ?_); refine goesL_ (some 10) rfl rfl Tryd.func14 (by kernel_rfl) rfl #[.string (⟨#[110, 111, 116, 105, 110, 59]⟩ : ByteArray)] rfl (by (try simp only [List.map_toArray, List.map_cons, List.map_nil]); first | done | rfl | (simp only [List.length_drop, List.length_take]; rfl)) ?_; (with_reducible refine (entity_Find.calls k (⟨#[110, 111, 116, 105, 110, 59]⟩ : ByteArray) t105 t106 _ (Wok_below hW (by repeat (first | (with_reducible first | exact HB.out | apply below_alloc | apply pw_below_drewN | apply below_drew1) | exact HB.out))) A2.out).mono ?_); rintro e w11 ⟨rfl, hb⟩; refine ⟨_, rfl, ?_⟩; have n0_ := Aside0.mk (below_step (by repeat (first | (with_reducible first | exact HB.out | apply below_alloc | apply pw_below_drewN | apply below_drew1) | exact HB.out)) hb); clear HB; have HB := n0_; clear n0_; (try clear hb); (try clear hb2); (try clear hk); (try clear hi)))
      go_ret
      exact ⟨by first | rfl | (simp [errW_none, errW_some] <;> rfl) | (simp [*, errW_none, errW_some] <;> rfl), by repeat (first | (with_reducible first | exact HB.out | apply below_alloc | apply pw_below_drewN | apply below_drew1) | exact HB.out)⟩
  · rw [if_neg c3] at H
    have c3b0 : (t103 == 3) = false := beq_eq_false_iff_ne.mpr c3
    have c3b1 : (t103 != 3) = true := bne_iff_ne.mpr c3
    obtain rfl := Option.some.inj H
    go_enter Tryd.func13, Tryd.ntmps13
    go_wp2_with (first | ((with_reducible refine gate_callee (f := 14) rfl ?_); refine goesL_ (some 6) rfl rfl Tryd.func14 (by kernel_rfl) rfl #[.string (⟨#[110, 111, 116, 105, 116]⟩ : ByteArray)] rfl (by (try simp only [List.map_toArray, List.map_cons, List.map_nil]); first | done | rfl | (simp only [List.length_drop, List.length_take]; rfl)) ?_; (with_reducible refine (entity_Find.calls k (⟨#[110, 111, 116, 105, 116]⟩ : ByteArray) t103 t104 _ (Wok_below hW (by repeat (first | (with_reducible first | exact HB.out | apply below_alloc | apply pw_below_drewN | apply below_drew1) | exact HB.out))) A1.out).mono ?_); rintro e w12 ⟨rfl, hb⟩; refine ⟨_, rfl, ?_⟩; have n0_ := Aside0.mk (below_step (by repeat (first | (with_reducible first | exact HB.out | apply below_alloc | apply pw_below_drewN | apply below_drew1) | exact HB.out)) hb); clear HB; have HB := n0_; clear n0_; (try clear hb); (try clear hb2); (try clear hk); (try clear hi)) | ((with_reducible refine gate_callee (f := 14) rfl ?_); refine goesL_ (some 10) rfl rfl Tryd.func14 (by kernel_rfl) rfl #[.string (⟨#[110, 111, 116, 105, 110, 59]⟩ : ByteArray)] rfl (by (try simp only [List.map_toArray, List.map_cons, List.map_nil]); first | done | rfl | (simp only [List.length_drop, List.length_take]; rfl)) ?_; (with_reducible refine (entity_Find.calls k (⟨#[110, 111, 116, 105, 110, 59]⟩ : ByteArray) t105 t106 _ (Wok_below hW (by repeat (first | (with_reducible first | exact HB.out | apply below_alloc | apply pw_below_drewN | apply below_drew1) | exact HB.out))) A2.out).mono ?_); rintro e w13 ⟨rfl, hb⟩; refine ⟨_, rfl, ?_⟩; have n0_ := Aside0.mk (below_step (by repeat (first | (with_reducible first | exact HB.out | apply below_alloc | apply pw_below_drewN | apply below_drew1) | exact HB.out)) hb); clear HB; have HB := n0_; clear n0_; (try clear hb); (try clear hb2); (try clear hk); (try clear hi)))
    go_ret
    exact ⟨by first | rfl | (simp [errW_none, errW_some] <;> rfl) | (simp [*, errW_none, errW_some] <;> rfl), by repeat (first | (with_reducible first | exact HB.out | apply below_alloc | apply pw_below_drewN | apply below_drew1) | exact HB.out)⟩

/-! ### entity_Names: function 17 -/
def entity_Names.names : List ByteArray := entTab.map fun x => ⟨x.1.toArray⟩
def entity_Names.f : Option (List ByteArray) := some entity_Names.names
theorem entity_Names.ix : ∀ (m : Nat) (w : World), m < 61 → (Instr.index 59 (.agg entCells.toArray) (.int .i64 (m : Int))).run Tryd.prog w = .ok (.agg #[.string (entS m), .string (entT m)]) w
  | 0, _, _ => by kernel_rfl
  | 1, _, _ => by kernel_rfl
  | 2, _, _ => by kernel_rfl
  | 3, _, _ => by kernel_rfl
  | 4, _, _ => by kernel_rfl
  | 5, _, _ => by kernel_rfl
  | 6, _, _ => by kernel_rfl
  | 7, _, _ => by kernel_rfl
  | 8, _, _ => by kernel_rfl
  | 9, _, _ => by kernel_rfl
  | 10, _, _ => by kernel_rfl
  | 11, _, _ => by kernel_rfl
  | 12, _, _ => by kernel_rfl
  | 13, _, _ => by kernel_rfl
  | 14, _, _ => by kernel_rfl
  | 15, _, _ => by kernel_rfl
  | 16, _, _ => by kernel_rfl
  | 17, _, _ => by kernel_rfl
  | 18, _, _ => by kernel_rfl
  | 19, _, _ => by kernel_rfl
  | 20, _, _ => by kernel_rfl
  | 21, _, _ => by kernel_rfl
  | 22, _, _ => by kernel_rfl
  | 23, _, _ => by kernel_rfl
  | 24, _, _ => by kernel_rfl
  | 25, _, _ => by kernel_rfl
  | 26, _, _ => by kernel_rfl
  | 27, _, _ => by kernel_rfl
  | 28, _, _ => by kernel_rfl
  | 29, _, _ => by kernel_rfl
  | 30, _, _ => by kernel_rfl
  | 31, _, _ => by kernel_rfl
  | 32, _, _ => by kernel_rfl
  | 33, _, _ => by kernel_rfl
  | 34, _, _ => by kernel_rfl
  | 35, _, _ => by kernel_rfl
  | 36, _, _ => by kernel_rfl
  | 37, _, _ => by kernel_rfl
  | 38, _, _ => by kernel_rfl
  | 39, _, _ => by kernel_rfl
  | 40, _, _ => by kernel_rfl
  | 41, _, _ => by kernel_rfl
  | 42, _, _ => by kernel_rfl
  | 43, _, _ => by kernel_rfl
  | 44, _, _ => by kernel_rfl
  | 45, _, _ => by kernel_rfl
  | 46, _, _ => by kernel_rfl
  | 47, _, _ => by kernel_rfl
  | 48, _, _ => by kernel_rfl
  | 49, _, _ => by kernel_rfl
  | 50, _, _ => by kernel_rfl
  | 51, _, _ => by kernel_rfl
  | 52, _, _ => by kernel_rfl
  | 53, _, _ => by kernel_rfl
  | 54, _, _ => by kernel_rfl
  | 55, _, _ => by kernel_rfl
  | 56, _, _ => by kernel_rfl
  | 57, _, _ => by kernel_rfl
  | 58, _, _ => by kernel_rfl
  | 59, _, _ => by kernel_rfl
  | 60, _, _ => by kernel_rfl
  | m + 61, _, h => absurd h (by omega)
theorem entity_Names.take_succ (m : Nat) (hm : m < 61) : entity_Names.names.take (m + 1) = entity_Names.names.take m ++ [entS m] := by
  have hl : m < entity_Names.names.length := by rw [entity_Names.names, List.length_map, entLen]; exact hm
  rw [List.take_succ_eq_append_getElem hl]
  congr 2
  have e : entity_Names.names[m]? = some (entS m) := by
    unfold entity_Names.names entS
    rw [List.getElem?_map, List.getD_eq_getElem?_getD, List.getElem?_eq_getElem (by rw [entLen]; exact hm), Option.getD_some, Option.map_some]
  exact Option.some.inj ((List.getElem?_eq_getElem hl).symm.trans e)
theorem entity_Names.info : (Tryd.prog.info? 9).map (fun i => (i.zero, i.size, i.bytes)) = some (some (.string ⟨#[]⟩), Kd.string.sz, 16) := by kernel_rfl
set_option maxHeartbeats 4000000 in
set_option maxRecDepth 1000000 in
theorem entity_Names.calls (r : List ByteArray) (w : World) (hW : Wok w) (h : entity_Names.f = some r) :
    Calls Tryd.prog 17 #[] w fun e w' => ∃ v0_ : Value, e = .returned v0_ ∧ Kd.R Kd.string 9 w' w.heap.size (fun _ => True) v0_ r ∧ Below w.heap.size w w' := by
  obtain rfl := Option.some.inj h
  obtain ⟨t, fz, hg⟩ := hW
  have HG := Lib.hid hg
  clear hg h
  go_enter Tryd.func17, Tryd.ntmps17
  go_wp2_with (with_reducible refine wpList_load_row rfl 59 (.global 0) rfl 0 rfl t entCells.toArray fz (.array 61 58) HG.out Tryd.underlying59 rfl (by kernel_rfl) ?_)
  go_loopg [1, 5] 62 (fun g s1 s5 wr => ∃ i : Nat, s5 = .int .i64 (i : Int) ∧ i ≤ 61 ∧ g + i = 62 ∧ Hid (Kd.R Kd.string 9 wr w.heap.size (fun _ => True) s1 (entity_Names.names.take i)) ∧ Hid (Below w.heap.size w wr))
  case atStart => exact ⟨0, rfl, by omega, rfl, Lib.hid (Kd.R_nil _ _ _ _ _), Lib.hid (Below.refl _ _)⟩
  case round =>
    obtain ⟨i, rfl, hi, hgk, HR, HB⟩ := hrel
    by_cases hlt : i < 61
    · have ix := fun w => entity_Names.ix i w hlt
      go_wp2_with (first | ((with_reducible refine gate_builtin (b := .append) (xs := #[.tmp 8, .tmp 11]) rfl ?_); at_builtin; refine Kd.R_append Kd.string (w0 := w) w.heap.size rfl (.tmp 8) (.tmp 11) 31 9 (.string ⟨#[]⟩) 16 rfl Tryd.underlying31 entity_Names.info rfl (by decide) (by omega) u1 (entity_Names.names.take i) (entS i) [.string (entS i)] (fun _ => True) (fun _ => False) rfl (by first | (go_simp; done) | (go_simp; rfl)) rfl (fun _ hk => hk.elim) (fun _ _ => trivial) ?aO ?aB ?aS ?aL ?_; (case aO => exact Kd.R_alloc HR.out _); (case aB => exact HB.out.alloc HB.out.size _); (case aS => exact (HB.out.alloc HB.out.size _).size); (case aL => rw [List.length_take]; omega); intro v1 w1 ho hb hg hat; have HO := Lib.hid ho; have HB1 := Lib.hid hb; clear ho hb hg hat))
      go_roundg (gk - 1)
      case measure => omega
      case rel => exact ⟨i + 1, rfl, by omega, by omega, Lib.hid (by rw [entity_Names.take_succ i hlt]; exact HO.out), HB1⟩
    · obtain rfl : i = 61 := by omega
      go_wp2
      go_ret
      exact ⟨_, rfl, HR.out, HB.out⟩

end Go.Proofs.YtnmjocoopbfpnaaDoor.PEntityP
