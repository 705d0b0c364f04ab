-- Laid by a program of this session (tools/patch_print.py) out of the translation. Not trusted: Lean checks it.
import Derived.Test.YtnmjocoopbfpnaaDoorPEntityNx0
namespace Go.Proofs.YtnmjocoopbfpnaaDoor.PEntityN
open Go.RowKit Go.Proofs.YtnmjocoopbfpnaaDoorW.PrintWords Go.Proofs.YtnmjocoopbfpnaaDoorW.PrintLast Go.Proofs.YtnmjocoopbfpnaaDoorW.PrintMore
attribute [local go_sem] max2_int min2_int max_two min_two max_three min_three max_four min_four   -- for this text's walks alone
set_option linter.unusedVariables false
set_option linter.unusedSimpArgs false

/-- The names and what they stand for, as the row lays them. -/
def entTab : List (List UInt8 × List UInt8) := [([65, 77, 80], [38]), ([65, 77, 80, 59], [38]), ([71, 84], [62]), ([71, 84, 59], [62]), ([76, 84], [60]), ([76, 84, 59], [60]), ([78, 101, 119, 76, 105, 110, 101, 59], [10]), ([81, 85, 79, 84], [34]), ([81, 85, 79, 84, 59], [34]), ([84, 97, 98, 59], [9]), ([97, 99, 69, 59], [226, 136, 190, 204, 179]), ([97, 108, 112, 104, 97, 59], [206, 177]), ([97, 109, 112], [38]), ([97, 109, 112, 59], [38]), ([97, 112, 111, 115, 59], [39]), ([98, 101, 116, 97, 59], [206, 178]), ([98, 117, 108, 108, 59], [226, 128, 162]), ([99, 111, 108, 111, 110, 59], [58]), ([99, 111, 112, 121], [194, 169]), ([99, 111, 112, 121, 59], [194, 169]), ([100, 101, 103], [194, 176]), ([100, 101, 103, 59], [194, 176]), ([100, 105, 118, 105, 100, 101], [195, 183]), ([100, 105, 118, 105, 100, 101, 59], [195, 183]), ([101, 117, 114, 111, 59], [226, 130, 172]), ([103, 101, 59], [226, 137, 165]), ([103, 116], [62]), ([103, 116, 59], [62]), ([104, 101, 108, 108, 105, 112, 59], [226, 128, 166]), ([105, 110, 102, 105, 110, 59], [226, 136, 158]), ([108, 100, 113, 117, 111, 59], [226, 128, 156]), ([108, 101, 59], [226, 137, 164]), ([108, 112, 97, 114, 59], [40]), ([108, 115, 113, 117, 111, 59], [226, 128, 152]), ([108, 116], [60]), ([108, 116, 59], [60]), ([109, 100, 97, 115, 104, 59], [226, 128, 148]), ([110, 98, 115, 112], [194, 160]), ([110, 98, 115, 112, 59], [194, 160]), ([110, 100, 97, 115, 104, 59], [226, 128, 147]), ([110, 111, 116], [194, 172]), ([110, 111, 116, 59], [194, 172]), ([110, 111, 116, 105, 110, 59], [226, 136, 137]), ([110, 118, 108, 116, 59], [60, 226, 131, 146]), ([112, 97, 114, 97], [194, 182]), ([112, 97, 114, 97, 59], [194, 182]), ([113, 117, 111, 116], [34]), ([113, 117, 111, 116, 59], [34]), ([114, 100, 113, 117, 111, 59], [226, 128, 157]), ([114, 101, 103], [194, 174]), ([114, 101, 103, 59], [194, 174]), ([114, 112, 97, 114, 59], [41]), ([114, 115, 113, 117, 111, 59], [226, 128, 153]), ([115, 101, 99, 116], [194, 167]), ([115, 101, 99, 116, 59], [194, 167]), ([115, 111, 108, 59], [47]), ([116, 105, 109, 101, 115], [195, 151]), ([116, 105, 109, 101, 115, 59], [195, 151]), ([116, 114, 97, 100, 101, 59], [226, 132, 162]), ([121, 101, 110], [194, 165]), ([121, 101, 110, 59], [194, 165])]
def entS (m : Nat) : ByteArray := ⟨((entTab.getD m ([], [])).1).toArray⟩
def entT (m : Nat) : ByteArray := ⟨((entTab.getD m ([], [])).2).toArray⟩
def entCells : List Value := entTab.flatMap fun x => [.string ⟨x.1.toArray⟩, .string ⟨x.2.toArray⟩]
/-- What the walks ask of a world: the table lies in it. -/
def Wok (w : World) : Prop := ∃ t fz, w.heap[0]? = some (.cells entCells.toArray t fz)
theorem Wok_below {w w' : World} (h : Wok w) (hb : Below w.heap.size w w') : Wok w' := by
  obtain ⟨t, fz, h⟩ := h
  exact ⟨t, fz, (hb.block _ (Array.getElem?_eq_some_iff.1 h).1).trans h⟩
theorem flat2 {α : Type} (f g : α → Value) : ∀ (l : List α) (i : Nat) (x : α), l[i]? = some x → (l.flatMap fun x => [f x, g x])[2 * i]? = some (f x) ∧ (l.flatMap fun x => [f x, g x])[2 * i + 1]? = some (g x)
  | [], _, _, h => by simp at h
  | a :: r, 0, x, h => by
    obtain rfl : a = x := by simpa using h
    exact ⟨rfl, rfl⟩
  | a :: r, i + 1, x, h => by
    have := flat2 f g r i x (by simpa using h)
    rw [show 2 * (i + 1) = 2 * i + 2 by omega]
    simpa using this
theorem entLen : entTab.length = 61 := rfl
theorem Wok.cell {w : World} (h : Wok w) (m : Nat) (hm : m < 61) : w.cell? ⟨0, 2 * m, none⟩ = some (.string (entS m)) ∧ w.cell? ⟨0, 2 * m + 1, none⟩ = some (.string (entT m)) := by
  obtain ⟨t, fz, h⟩ := h
  have hx : entTab[m]? = some (entTab.getD m ([], [])) := by
    rw [List.getD_eq_getElem?_getD, List.getElem?_eq_getElem (by rw [entLen]; exact hm), Option.getD_some]
  have := flat2 (fun x : List UInt8 × List UInt8 => Value.string ⟨x.1.toArray⟩) (fun x => Value.string ⟨x.2.toArray⟩) entTab m _ hx
  constructor
  · simp only [World.cell?, h, List.getElem?_toArray]
    exact this.1
  · simp only [World.cell?, h, List.getElem?_toArray]
    exact this.2
theorem of_rows2 {α : Type} (f g : α → Value) : ∀ (rows : List α) (l : List Value), l.length = 2 * rows.length → (∀ m x, rows[m]? = some x → (l.drop (m * 2)).take 2 = [f x, g x]) → l = rows.flatMap fun x => [f x, g x]
  | [], l, h, _ => by
    cases l with
    | nil => rfl
    | cons _ _ => simp at h
  | x :: r, l, h, hm => by
    have h0 := hm 0 x rfl
    match l, h with
    | [], h => simp at h
    | [a], h => simp at h; omega
    | a :: b :: l', h =>
      have e : [a, b] = [f x, g x] := by simpa using h0
      obtain ⟨rfl, rfl⟩ : a = f x ∧ b = g x := by simpa using e
      have ih := of_rows2 f g r l' (by simp at h; omega) (fun m y hy => by
        have := hm (m + 1) y (by simpa using hy)
        rw [show (m + 1) * 2 = m * 2 + 2 by omega] at this
        simpa using this)
      show _ = f x :: g x :: r.flatMap _
      rw [← ih]
def entData : DataW Unit := .agg (entTab.map fun x => .agg [.lit (.string x.1), .lit (.string x.2)])
theorem Wok_of_reads {W : World} (h : Lib.VarReads Tryd.prog W "decanter/entity.table" entData) : Wok W := by
  obtain ⟨g, t, cs, fuel, p, hg, ht, hv, hd⟩ := h
  obtain rfl := Option.some.inj ((show Tryd.prog.globalNamed "decanter/entity.table" = some 0 by kernel_rfl).symm.trans hg)
  obtain rfl := Option.some.inj ((show (Tryd.prog.globals[0]?).map (·.type) = some 59 by kernel_rfl).symm.trans ht)
  have cE : Tryd.prog.cellsOf 58 = 2 := by kernel_rfl
  have cA : Tryd.prog.cellsOf 59 = 122 := by kernel_rfl
  have cS : Tryd.prog.cellsOf 9 = 1 := by kernel_rfl
  have hlen : cs.toList.length = 122 := by
    obtain ⟨_, _, _, _, hl, _⟩ := DataW.trod_array Tryd.underlying59 hd
    rw [hl, cA]
  have hcs : cs.toList = entCells := by
    refine of_rows2 _ _ entTab cs.toList (by rw [hlen]; rfl) fun m x hx => ?_
    have hm : m < 61 := by
      have := (List.getElem?_eq_some_iff.1 hx).1
      rwa [entLen] at this
    obtain ⟨fuel', d, q, hdi, he⟩ := Lib.array_elem Tryd.underlying59 hd m hm
    rw [List.getElem?_map, hx, Option.map_some] at hdi
    obtain rfl := Option.some.inj hdi
    rw [cE] at he
    obtain ⟨y0, y1, n, hy, hl, h0, h1⟩ := Go.ChangeShapes.trod_struct2 Tryd.underlying58 he
    rw [cE] at hl
    have hy' := congrArg Prod.fst hy
    simp only [DataW.agg.injEq, List.cons.injEq, and_true] at hy'
    obtain ⟨s0, hc0, hz0, _⟩ := DataW.trod_string Tryd.underlying9 h0
    obtain ⟨s1, hc1, hz1, _⟩ := DataW.trod_string Tryd.underlying9 h1
    rw [hz0, hz1] at hy'
    simp only [DataW.lit.injEq, Lit.string.injEq] at hy'
    rw [show Tryd.prog.cellsOf _ = 1 from cS] at hc0 hc1
    generalize (cs.toList.drop (m * 2)).take 2 = l at hl hc0 hc1 ⊢
    match l, hl with
    | [a, b], _ =>
      have e0 : a = .string s0 := by simpa using hc0
      have e1 : b = .string s1 := by simpa using hc1
      rw [e0, e1, hy'.1, hy'.2]
  unfold World.var? at hv
  rw [show Tryd.prog.globalNamed "decanter/entity.table" = some 0 by kernel_rfl, Option.bind_some] at hv
  split at hv
  · rename_i c2 t fz hh
    obtain rfl := Option.some.inj hv
    refine ⟨t, fz, ?_⟩
    rw [← hcs]
    exact hh
  · cases hv
theorem Wok_of_laid {W : World} (h : laidMetH Tryd.prog Rows.entityTextsRow.laid W) : Wok W := by
  rw [MakeChecks.laidMetH_plain _ _ _ (by kernel_rfl)] at h
  exact Wok_of_reads ((show (Rows.laid_decanter_entity_table : DataW Unit) = entData by kernel_rfl) ▸ Lib.laidMet.reads h (List.mem_cons_self ..))

/-! ### entity_get: function 27 -/
def entity_get.less (t : Nat) (x : ByteArray) : Bool := Op.bytesLess (entS t).toList x.toList
def entity_get.bs (x : ByteArray) : Nat → Nat → Nat → Nat
  | 0, lo, _ => lo
  | f + 1, lo, hi => if lo < hi then (if entity_get.less ((lo + hi) / 2) x then entity_get.bs x f ((lo + hi) / 2 + 1) hi else entity_get.bs x f lo ((lo + hi) / 2)) else lo
theorem entity_get.bs_fuel (x : ByteArray) : ∀ (f g lo hi : Nat), hi - lo ≤ f → hi - lo ≤ g → entity_get.bs x f lo hi = entity_get.bs x g lo hi
  | 0, 0, _, _, _, _ => rfl
  | 0, g + 1, lo, hi, hf, _ => by simp [entity_get.bs, show ¬ lo < hi by omega]
  | f + 1, 0, lo, hi, _, hg => by simp [entity_get.bs, show ¬ lo < hi by omega]
  | f + 1, g + 1, lo, hi, hf, hg => by
    unfold entity_get.bs
    by_cases h : lo < hi
    · rw [if_pos h, if_pos h, entity_get.bs_fuel x f g _ _ (by omega) (by omega), entity_get.bs_fuel x f g lo _ (by omega) (by omega)]
    · rw [if_neg h, if_neg h]
/-- The place at which the halving ends. -/
def entity_get.at_ (x : ByteArray) : Nat := entity_get.bs x 61 0 61
def entity_get.is (x : ByteArray) : Bool := decide (entity_get.at_ x < 61) && ((entS (entity_get.at_ x)).toList == x.toList)
def entity_get.f (x : ByteArray) : Option (ByteArray × Bool) := some (if entity_get.is x then (entT (entity_get.at_ x), true) else (⟨#[]⟩, false))
def entity_get.cmp (a x : ByteArray) : Int := if Op.bytesLess a.toList x.toList then -1 else if a.toList == x.toList then 0 else 1
theorem entity_get.nan (x : ByteArray) (w : World) : Calls Tryd.prog 54 #[.string x] w fun e w' => e = .returned (.bool false) ∧ w' = w := by
  go_enter Tryd.func54, Tryd.ntmps54
  go_wp2
  go_ret
  exact ⟨by simp, rfl⟩
theorem entity_get.compare (a x : ByteArray) (w : World) : Calls Tryd.prog 44 #[.string a, .string x] w fun e w' => e = .returned (.int .i64 (entity_get.cmp a x)) ∧ w' = w := by
  unfold entity_get.cmp
  cases h1 : Op.bytesLess a.toList x.toList <;> cases h2 : (a.toList == x.toList)
  all_goals
    go_enter Tryd.func44, Tryd.ntmps44
    go_wp2_with (go_at_call 54; refine (entity_get.nan _ _).mono ?_; rintro e w' ⟨rfl, rfl⟩)
    go_ret
    exact ⟨rfl, rfl⟩
theorem entity_get.closure (a b x : ByteArray) (w : World) : Calls Tryd.prog 43 #[.agg #[.string a, .string b], .string x] w fun e w' => e = .returned (.int .i64 (entity_get.cmp a x)) ∧ Below w.heap.size w w' := by
  go_enter Tryd.func43, Tryd.ntmps43
  go_wp2_with (go_at_call 44; refine (entity_get.compare _ _ _).mono ?_; rintro e w' ⟨rfl, rfl⟩)
  go_ret
  exact ⟨rfl, by go_grown⟩
set_option maxHeartbeats 4000000 in
set_option maxRecDepth 1000000 in
theorem entity_get.search (x : ByteArray) (w : World) (hW : Wok w) : Calls Tryd.prog 42 #[.slice (some ⟨0, 0, none⟩) 61 61, .string x, .func (.func 43) #[] #[]] w fun e w' =>
    e = .returned (.tuple #[.int .i64 (entity_get.at_ x : Nat), .bool (entity_get.is x)]) ∧ Below w.heap.size w w' := by
  have HW := Lib.hid hW
  clear hW
  obtain ⟨I, hI⟩ : ∃ I, entity_get.at_ x = I := ⟨_, rfl⟩
  unfold entity_get.is
  rw [hI]
  have hI2 : entity_get.bs x 61 0 61 = I := hI
  clear hI
  go_enter Tryd.func42, Tryd.ntmps42
  go_wp2
  go_loopg [9, 10] 61 (fun g s9 s10 wr => ∃ lo hi : Nat, s9 = .int .i64 lo ∧ s10 = .int .i64 hi ∧ lo ≤ hi ∧ hi ≤ 61 ∧ hi - lo ≤ g ∧ Hid (Below w.heap.size w wr) ∧ Hid (entity_get.bs x g lo hi = I))
  case atStart => exact ⟨0, 61, rfl, rfl, Nat.zero_le _, Nat.le_refl _, by omega, Lib.hid (Below.refl _ _), Lib.hid hI2⟩
  case round =>
    clear hI2
    obtain ⟨lo, hi, rfl, rfl, hlh, hin, hg, HB, HL⟩ := hrel
    by_cases hlt : lo < hi
    · have cm := (Wok_below HW.out HB.out).cell ((lo + hi) / 2) (by omega)
      obtain ⟨c1, c2⟩ := cm
      obtain ⟨g', rfl⟩ : ∃ g', gk = g' + 1 := ⟨gk - 1, by omega⟩
      have hb := HL.out
      clear HL
      rw [entity_get.bs, if_pos hlt] at hb
      have HC := Lib.hid (fun W : World => entity_get.closure (entS ((lo + hi) / 2)) (entT ((lo + hi) / 2)) x W)
      unfold entity_get.less at hb
      rw [Nat.mul_comm] at c1 c2
      generalize entS ((lo + hi) / 2) = y at *
      generalize entT ((lo + hi) / 2) = z at *
      obtain ⟨c, hc⟩ : ∃ c, entity_get.cmp y x = c := ⟨_, rfl⟩
      rw [hc] at HC
      cases hyx : Op.bytesLess y.toList x.toList
      · have hc0 : ¬ c < 0 := by
          rw [← hc]
          unfold entity_get.cmp
          rw [hyx]
          split
          · contradiction
          · split <;> decide
        rw [hyx] at hb
        have HL := Lib.hid hb
        clear hb hc hyx
        go_wp2_with (go_at_call 43; refine (HC.out _).mono ?_; rintro e w' ⟨rfl, hb1⟩)
        go_roundg ((lo + hi) / 2 - lo)
        case measure => omega
        case rel => exact ⟨lo, (lo + hi) / 2, rfl, by rw [show ((lo : Int) + (hi : Int)) / 2 = (((lo + hi) / 2 : Nat) : Int) by omega], by omega, by omega, Nat.le_refl _, Lib.hid (HB.out.trans (hb1.mono HB.out.size)), Lib.hid (by rw [← HL.out]; exact entity_get.bs_fuel _ _ _ _ _ (Nat.le_refl _) (by omega))⟩
      · have hc0 : c < 0 := by
          rw [← hc]
          unfold entity_get.cmp
          rw [hyx, if_pos rfl]
          decide
        rw [hyx] at hb
        have HL := Lib.hid hb
        clear hb hc hyx
        go_wp2_with (go_at_call 43; refine (HC.out _).mono ?_; rintro e w' ⟨rfl, hb1⟩)
        go_roundg (hi - ((lo + hi) / 2 + 1))
        case measure => omega
        case rel => exact ⟨(lo + hi) / 2 + 1, hi, by rw [show ((lo : Int) + (hi : Int)) / 2 + 1 = (((lo + hi) / 2 + 1 : Nat) : Int) by omega], rfl, by omega, hin, Nat.le_refl _, Lib.hid (HB.out.trans (hb1.mono HB.out.size)), Lib.hid (by rw [← HL.out]; exact entity_get.bs_fuel _ _ _ _ _ (Nat.le_refl _) (by omega))⟩
    · obtain rfl : hi = lo := by omega
      have hIe : I = hi := by
        rw [← HL.out]
        cases gk <;> simp [entity_get.bs]
      subst hIe
      clear HL
      by_cases hn : I < 61
      · obtain ⟨c1, c2⟩ := (Wok_below HW.out HB.out).cell I hn
        have HC := Lib.hid (fun W : World => entity_get.closure (entS I) (entT I) x W)
        rw [Nat.mul_comm] at c1 c2
        obtain ⟨y, hy⟩ : ∃ y, entS I = y := ⟨_, rfl⟩
        obtain ⟨z, hz⟩ : ∃ z, entT I = z := ⟨_, rfl⟩
        rw [hy] at c1 HC
        rw [hz] at c2 HC
        have HY := Lib.hid hy
        clear hy hz
        obtain ⟨c, hc⟩ : ∃ c, entity_get.cmp y x = c := ⟨_, rfl⟩
        rw [hc] at HC
        by_cases hc0 : c = 0
        · have heq : (y.toList == x.toList) = true := by
            subst hc0
            unfold entity_get.cmp at hc
            split at hc
            · cases hc
            · split at hc
              · assumption
              · cases hc
          have HE := Lib.hid heq
          clear heq
          subst hc0
          clear hc
          go_wp2_with (go_at_call 43; refine (HC.out _).mono ?_; rintro e w' ⟨rfl, hb1⟩)
          go_ret2
          refine ⟨?_, HB.out.trans (hb1.mono HB.out.size)⟩
          rw [HY.out, HE.out, decide_eq_true hn]
          rfl
        · have heq : (y.toList == x.toList) = false := by
            rw [← hc] at hc0
            unfold entity_get.cmp at hc0
            cases he : (y.toList == x.toList) with
            | false => rfl
            | true =>
              rw [he] at hc0
              have : y.toList = x.toList := by simpa using he
              rw [this, bytesLess_eq] at hc0
              simp at hc0
          have HE := Lib.hid heq
          clear heq hc
          go_wp2_with (go_at_call 43; refine (HC.out _).mono ?_; rintro e w' ⟨rfl, hb1⟩)
          go_ret2
          refine ⟨?_, HB.out.trans (hb1.mono HB.out.size)⟩
          rw [HY.out, HE.out, Bool.and_false]
          rw [show (Value.bool false) = Value.bool (c == 0) from congrArg Value.bool (beq_eq_false_iff_ne.2 hc0).symm]
          rfl
      · go_wp2
        go_ret2
        refine ⟨?_, HB.out⟩
        first
          | rfl
          | (rw [decide_eq_false hn, Bool.false_and]; rfl)
set_option maxHeartbeats 4000000 in
set_option maxRecDepth 1000000 in
theorem entity_get.calls (x : ByteArray) (r1 : ByteArray) (r2 : Bool) (w : World) (hW : Wok w) (h : entity_get.f x = some (r1, r2)) :
    Calls Tryd.prog 27 #[.string x] w fun e w' => e = .returned (.tuple #[.string r1, .bool r2]) ∧ Below w.heap.size w w' := by
  have HW := Lib.hid hW
  have HS := Lib.hid (entity_get.search x w hW)
  clear hW
  unfold entity_get.f at h
  cases hi : entity_get.is x with
  | false =>
    rw [hi] at h
    obtain ⟨rfl, rfl⟩ := Prod.mk.inj (Option.some.inj h)
    rw [hi] at HS
    clear hi h
    go_enter Tryd.func27, Tryd.ntmps27
    go_wp2_with (go_at_call 42; refine HS.out.mono ?_; rintro e w' ⟨rfl, hb1⟩)
    go_ret2
    exact ⟨rfl, hb1⟩
  | true =>
    rw [hi] at h
    obtain ⟨rfl, rfl⟩ := Prod.mk.inj (Option.some.inj h)
    rw [hi] at HS
    have hlt : entity_get.at_ x < 61 := by
      unfold entity_get.is at hi
      rw [Bool.and_eq_true] at hi
      exact of_decide_eq_true hi.1
    clear hi h
    generalize entity_get.at_ x = I at *
    go_enter Tryd.func27, Tryd.ntmps27
    go_wp2_with (go_at_call 42; refine HS.out.mono ?_; rintro e w' ⟨rfl, hb1⟩; obtain ⟨c1, c2⟩ := (Wok_below HW.out hb1).cell I hlt; rw [Nat.mul_comm] at c1 c2)
    go_ret2
    exact ⟨rfl, hb1⟩

/-! ### entity_Find: function 14 -/
def entity_Find.l0 : Nat → ByteArray → Int → Option (Int × ByteArray)
  | 0, _, _ => none
  | k + 1, x0, x4 => if x4 > 0 then (if 0 ≤ x4 then (if x4 ≤ (x0.size : Int) then ((entity_get.f (x0.extract 0 (x4 : Int).toNat)).bind fun bt101 => (if bt101.2 = true then (some (x4, bt101.1)) else (entity_Find.l0 k x0 (wrap64 (x4 - 1))))) else (none)) else (none)) else (some (0, (⟨#[]⟩ : ByteArray)))
def entity_Find.f (k : Nat) (a0 : ByteArray) : Option (Int × ByteArray) := entity_Find.l0 k a0 (mn (a0.size : Int) 8)
theorem entity_Find.mono_l : ∀ k, (∀ y0 y1, LeO (entity_Find.l0 k y0 y1) (entity_Find.l0 (k + 1) y0 y1))
  | 0 => fun _ _ r h => by simp [entity_Find.l0] at h
  | k + 1 => by
    have ih0 := entity_Find.mono_l k
    · intro y0 y1
      unfold entity_Find.l0
      repeat' first
      | (with_reducible exact ih0 _ _)
      | (with_reducible exact LeO.refl _)
      | (with_reducible exact LeO.none _)
      | (with_reducible refine LeO.ite ?_ ?_)
      | (with_reducible refine LeO.bind ?_ (fun _ => ?_))
      | exact ih0 _ _
      | exact LeO.none _
      | refine LeO.ite ?_ ?_
      | refine LeO.bind ?_ (fun _ => ?_)
theorem entity_Find.mono : ∀ a0 k, LeO (entity_Find.f k a0) (entity_Find.f (k + 1) a0) := by
  intro a0 k
  have ih0 := entity_Find.mono_l k
  unfold entity_Find.f
  repeat' first
      | (with_reducible exact ih0 _ _)
      | (with_reducible exact LeO.refl _)
      | (with_reducible exact LeO.none _)
      | (with_reducible refine LeO.ite ?_ ?_)
      | (with_reducible refine LeO.bind ?_ (fun _ => ?_))
      | exact ih0 _ _
      | exact LeO.none _
      | refine LeO.ite ?_ ?_
      | refine LeO.bind ?_ (fun _ => ?_)
set_option maxHeartbeats 8000000 in
set_option maxRecDepth 100000 in
theorem entity_Find.calls (k : Nat) (a0 : ByteArray) (r1 : Int) (r2 : ByteArray) (w : World) (hW : Wok w) (h : entity_Find.f k a0 = some (r1, r2)) :
    Calls Tryd.prog 14 #[.string a0] w fun e w' => e = .returned (.tuple #[.int .i64 r1, .string r2]) ∧ Below w.heap.size w w' := by
  have HB := Aside0.mk (Below.refl w.heap.size w)
  have H : (entity_Find.l0 k a0 (mn (a0.size : Int) 8)) = some (r1, r2) := h
  clear h
  obtain ⟨ji2, hji2⟩ : ∃ j_ : Int, (mn (a0.size : Int) 8) = j_ := ⟨_, rfl⟩
  replace H : (entity_Find.l0 k a0 ji2) = some (r1, r2) := by first | (rw [hji2] at H; exact H) | (simp only [hji2] at H ⊢; exact H)
  (try (have hji2h : ji2 ≤ 8 := by (rw [← hji2]; unfold mn; (repeat' split) <;> omega)))
  (try (have hji2g : ji2 ≤ 64 := by omega))
  (try (have hji2l : 0 ≤ ji2 := by (rw [← hji2]; unfold mn; (repeat' split) <;> omega)))
  (try (have hji2m : 0 ≤ ji2 := by omega))
  have hji2_ : (if 8 < (a0.size : Int) then 8 else (a0.size : Int)) = ji2 := hji2
  have H' := Aside0.mk H
  clear H
  go_enter Tryd.func14, Tryd.ntmps14
  go_wp2
  go_loopg [4] k (fun kq v4 w' => ∃ (x4_1 : Int), v4 = .int .i64 x4_1 ∧ Aside0 (entity_Find.l0 kq a0 x4_1 = some (r1, r2)) ∧ Aside0 (kq ≤ k) ∧ Aside0 (Below w.heap.size w w'))
  case atStart => exact ⟨(ji2), (by first | rfl | (simp; done) | (simp only [← hji2] <;> (first | rfl | simp)) | (simp [*]; done)), H', ⟨Nat.le_refl _⟩, ⟨by repeat (first | (with_reducible first | exact HB.out | apply below_alloc | apply pw_below_drewN | apply below_drew1) | exact HB.out)⟩⟩
  case round =>
    clear H'
    try clear c1
    try clear p2
    obtain ⟨x4_1, rfl, HA, HK1, HB⟩ := hrel
    cases gk with
    | zero => exact absurd HA.out (by simp [entity_Find.l0])
    | succ k1 =>
      have H := HA.out
      clear HA
      simp only [entity_Find.l0] at H
      by_cases c3 : x4_1 > 0
      · rw [if_pos c3] at H
        have c3b0 : decide (0 < x4_1) = true := decide_eq_true c3
        clear c3
        by_cases c4 : 0 ≤ x4_1
        · rw [if_pos c4] at H
          have c4b0 := eq_true c4
          have c4b1 : decide (0 ≤ x4_1) = true := decide_eq_true c4
          clear c4
          by_cases c5 : x4_1 ≤ (a0.size : Int)
          · rw [if_pos c5] at H
            have c5b0 := eq_true c5
            have c5b1 : decide (x4_1 ≤ (a0.size : Int)) = true := decide_eq_true c5
            clear c5
            replace H := Option.bind_eq_some_iff.mp H
            obtain ⟨⟨t101, t102⟩, A60, H⟩ := H
            replace H : (if t102 = true then (some (x4_1, t101)) else (entity_Find.l0 k1 a0 (wrap64 (x4_1 - 1)))) = some (r1, r2) := H
            have A6 := Aside0.mk A60
            clear A60
            by_cases c7 : t102 = true
            · subst c7
              have H1 : (some (x4_1, t101)) = some (r1, r2) := by rw [if_pos rfl] at H; exact H
              clear H
              have H := H1
              clear H1
              simp only [Option.some.injEq, Prod.mk.injEq] at H
              obtain ⟨rfl, rfl⟩ := H
              go_wp2_with (first | ((with_reducible refine gate_callee (f := 27) rfl ?_); refine goesL_ (some 18) rfl rfl Tryd.func27 (by kernel_rfl) rfl #[.string (a0.extract 0 (x4_1 : Int).toNat)] rfl (by (try simp only [List.map_toArray, List.map_cons, List.map_nil]); first | done | rfl | (simp only [List.length_drop, List.length_take]; rfl)) ?_; (with_reducible refine (entity_get.calls (a0.extract 0 (x4_1 : Int).toNat) t101 true _ (Wok_below hW (by repeat (first | (with_reducible first | exact HB.out | apply below_alloc | apply pw_below_drewN | apply below_drew1) | exact HB.out))) A6.out).mono ?_); rintro e w8 ⟨rfl, hb⟩; refine ⟨_, rfl, ?_⟩; have n0_ := Aside0.mk (below_step (by repeat (first | (with_reducible first | exact HB.out | apply below_alloc | apply pw_below_drewN | apply below_drew1) | exact HB.out)) hb); clear HB; have HB := n0_; clear n0_; (try clear hb); (try clear hb2); (try clear hk); (try clear hi)))
              go_ret2
              exact ⟨by first | rfl | (simp [errW_none, errW_some] <;> rfl) | (simp only [← hji2]; first | rfl | (simp [errW_none, errW_some] <;> rfl)) | (simp [*, errW_none, errW_some] <;> rfl), by repeat (first | (with_reducible first | exact HB.out | apply below_alloc | apply pw_below_drewN | apply below_drew1) | exact HB.out)⟩
            · replace c7 := Bool.eq_false_iff.mpr c7
              subst c7
              have H1 : (entity_Find.l0 k1 a0 (wrap64 (x4_1 - 1))) = some (r1, r2) := by rw [if_neg (show ¬ (false = true) by decide)] at H; exact H
              clear H
              have H := H1
              clear H1
              have H' := Aside0.mk H
              clear H
              go_wp2_with (first | ((with_reducible refine gate_callee (f := 27) rfl ?_); refine goesL_ (some 18) rfl rfl Tryd.func27 (by kernel_rfl) rfl #[.string (a0.extract 0 (x4_1 : Int).toNat)] rfl (by (try simp only [List.map_toArray, List.map_cons, List.map_nil]); first | done | rfl | (simp only [List.length_drop, List.length_take]; rfl)) ?_; (with_reducible refine (entity_get.calls (a0.extract 0 (x4_1 : Int).toNat) t101 false _ (Wok_below hW (by repeat (first | (with_reducible first | exact HB.out | apply below_alloc | apply pw_below_drewN | apply below_drew1) | exact HB.out))) A6.out).mono ?_); rintro e w9 ⟨rfl, hb⟩; refine ⟨_, rfl, ?_⟩; have n0_ := Aside0.mk (below_step (by repeat (first | (with_reducible first | exact HB.out | apply below_alloc | apply pw_below_drewN | apply below_drew1) | exact HB.out)) hb); clear HB; have HB := n0_; clear n0_; (try clear hb); (try clear hb2); (try clear hk); (try clear hi)))
              go_roundg k1
              case measure => have := HK1.out; omega
              case rel => exact ⟨(wrap64 (x4_1 - 1)), (by first | rfl | (simp; done) | (simp [*]; done)), H', ⟨by have := HK1.out; omega⟩, ⟨by repeat (first | (with_reducible first | exact HB.out | apply below_alloc | apply pw_below_drewN | apply below_drew1) | exact HB.out)⟩⟩
          · rw [if_neg c5] at H
            exact absurd H (by simp)
        · rw [if_neg c4] at H
          exact absurd H (by simp)
      · rw [if_neg c3] at H
        have c3b0 : decide (0 < x4_1) = false := decide_eq_false c3
        clear c3
        simp only [Option.some.injEq, Prod.mk.injEq] at H
        obtain ⟨rfl, rfl⟩ := H
        go_wp2
        go_ret2
        exact ⟨by first | rfl | (simp [errW_none, errW_some] <;> rfl) | (simp only [← hji2]; first | rfl | (simp [errW_none, errW_some] <;> rfl)) | (simp [*, errW_none, errW_some] <;> rfl), by repeat (first | (with_reducible first | exact HB.out | apply below_alloc | apply pw_below_drewN | apply below_drew1) | exact HB.out)⟩

/-! ### decanterlaw04_speaks: function 13 -/
def decanterlaw04_speaks.f (k : Nat)  : Option (Bool) := (entity_Find.f k (⟨#[110, 111, 116, 105, 116]⟩ : ByteArray)).bind fun bt103 => ((entity_Find.f k (⟨#[110, 111, 116, 105, 110, 59]⟩ : ByteArray)).bind fun bt105 => (if bt103.1 = 3 then (if bt103.2.toList = ([194, 172] : List UInt8) then (if bt105.1 = 6 then (some (bt105.2.toList == ([226, 136, 137] : List UInt8))) else (some false)) else (some false)) else (some false)))
theorem decanterlaw04_speaks.mono : ∀ k, LeO (decanterlaw04_speaks.f k ) (decanterlaw04_speaks.f (k + 1) ) := by
  intro  k
  unfold decanterlaw04_speaks.f
  repeat' first
      | (with_reducible exact entity_Find.mono _ _)
      | (with_reducible exact LeO.refl _)
      | (with_reducible exact LeO.none _)
      | (with_reducible refine LeO.ite ?_ ?_)
      | (with_reducible refine LeO.bind ?_ (fun _ => ?_))
      | exact entity_Find.mono _ _
      | exact LeO.none _
      | refine LeO.ite ?_ ?_
      | refine LeO.bind ?_ (fun _ => ?_)
set_option maxHeartbeats 8000000 in
set_option maxRecDepth 100000 in
theorem decanterlaw04_speaks.calls (k : Nat)  (r : Bool) (w : World) (hW : Wok w) (h : decanterlaw04_speaks.f k  = some r) :
    Calls Tryd.prog 13 #[] w fun e w' => e = .returned (.bool r) ∧ Below w.heap.size w w' := by
  have HB := Aside0.mk (Below.refl w.heap.size w)
  have H : ((entity_Find.f k (⟨#[110, 111, 116, 105, 116]⟩ : ByteArray)).bind fun bt103 => ((entity_Find.f k (⟨#[110, 111, 116, 105, 110, 59]⟩ : ByteArray)).bind fun bt105 => (if bt103.1 = 3 then (if bt103.2.toList = ([194, 172] : List UInt8) then (if bt105.1 = 6 then (some (bt105.2.toList == ([226, 136, 137] : List UInt8))) else (some false)) else (some false)) else (some false)))) = some r := h
  clear h
  replace H := Option.bind_eq_some_iff.mp H
  obtain ⟨⟨t103, t104⟩, A10, H⟩ := H
  replace H : ((entity_Find.f k (⟨#[110, 111, 116, 105, 110, 59]⟩ : ByteArray)).bind fun bt105 => (if t103 = 3 then (if t104.toList = ([194, 172] : List UInt8) then (if bt105.1 = 6 then (some (bt105.2.toList == ([226, 136, 137] : List UInt8))) else (some false)) else (some false)) else (some false))) = some r := H
  have A1 := Aside0.mk A10
  clear A10
  replace H := Option.bind_eq_some_iff.mp H
  obtain ⟨⟨t105, t106⟩, A20, H⟩ := H
  replace H : (if t103 = 3 then (if t104.toList = ([194, 172] : List UInt8) then (if t105 = 6 then (some (t106.toList == ([226, 136, 137] : List UInt8))) else (some false)) else (some false)) else (some false)) = some r := H
  have A2 := Aside0.mk A20
  clear A20
  by_cases c3 : t103 = 3
  · rw [if_pos c3] at H
    have c3b0 : (t103 == 3) = true := beq_iff_eq.mpr c3
    have c3b1 : (t103 != 3) = false := bne_eq_false_iff_eq.mpr c3
    clear c3
    by_cases c4 : t104.toList = ([194, 172] : List UInt8)
    · rw [if_pos c4] at H
      have c4b0 : (t104.toList == ([194, 172] : List UInt8)) = true := beq_iff_eq.mpr c4
      have c4b1 : (t104.toList != ([194, 172] : List UInt8)) = false := bne_eq_false_iff_eq.mpr c4
      clear c4
      by_cases c5 : t105 = 6
      · rw [if_pos c5] at H
        have c5b0 : (t105 == 6) = true := beq_iff_eq.mpr c5
        have c5b1 : (t105 != 6) = false := bne_eq_false_iff_eq.mpr c5
        clear c5
        obtain rfl := Option.some.inj H
        go_enter Tryd.func13, Tryd.ntmps13
        go_wp2_with (first | ((with_reducible refine gate_callee (f := 14) rfl ?_); refine goesL_ (some 6) rfl rfl Tryd.func14 (by kernel_rfl) rfl #[.string (⟨#[110, 111, 116, 105, 116]⟩ : ByteArray)] rfl (by (try simp only [List.map_toArray, List.map_cons, List.map_nil]); first | done | rfl | (simp only [List.length_drop, List.length_take]; rfl)) ?_; (with_reducible refine (entity_Find.calls k (⟨#[110, 111, 116, 105, 116]⟩ : ByteArray) t103 t104 _ (Wok_below hW (by repeat (first | (with_reducible first | exact HB.out | apply below_alloc | apply pw_below_drewN | apply below_drew1) | exact HB.out))) A1.out).mono ?_); rintro e w6 ⟨rfl, hb⟩; refine ⟨_, rfl, ?_⟩; have n0_ := Aside0.mk (below_step (by repeat (first | (with_reducible first | exact HB.out | apply below_alloc | apply pw_below_drewN | apply below_drew1) | exact HB.out)) hb); clear HB; have HB := n0_; clear n0_; (try clear hb); (try clear hb2); (try clear hk); (try clear hi)) | ((with_reducible refine gate_callee (f := 14) rfl ?_); refine goesL_ (some 10) rfl rfl Tryd.func14 (by kernel_rfl) rfl #[.string (⟨#[110, 111, 116, 105, 110, 59]⟩ : ByteArray)] rfl (by (try simp only [List.map_toArray, List.map_cons, List.map_nil]); first | done | rfl | (simp only [List.length_drop, List.length_take]; rfl)) ?_; (with_reducible refine (entity_Find.calls k (⟨#[110, 111, 116, 105, 110, 59]⟩ : ByteArray) t105 t106 _ (Wok_below hW (by repeat (first | (with_reducible first | exact HB.out | apply below_alloc | apply pw_below_drewN | apply below_drew1) | exact HB.out))) A2.out).mono ?_); rintro e w7 ⟨rfl, hb⟩; refine ⟨_, rfl, ?_⟩; have n0_ := Aside0.mk (below_step (by repeat (first | (with_reducible first | exact HB.out | apply below_alloc | apply pw_below_drewN | apply below_drew1) | exact HB.out)) hb); clear HB; have HB := n0_; clear n0_; (try clear hb); (try clear hb2); (try clear hk); (try clear hi)))
        go_ret
        exact ⟨by first | rfl | (simp [errW_none, errW_some] <;> rfl) | (simp [*, errW_none, errW_some] <;> rfl), by repeat (first | (with_reducible first | exact HB.out | apply below_alloc | apply pw_below_drewN | apply below_drew1) | exact HB.out)⟩
      · rw [if_neg c5] at H
        have c5b0 : (t105 == 6) = false := beq_eq_false_iff_ne.mpr c5
        have c5b1 : (t105 != 6) = true := bne_iff_ne.mpr c5
        obtain rfl := Option.some.inj H
        go_enter Tryd.func13, Tryd.ntmps13
        go_wp2_with (first | ((with_reducible refine gate_callee (f := 14) rfl ?_); refine goesL_ (some 6) rfl rfl Tryd.func14 (by kernel_rfl) rfl #[.string (⟨#[110, 111, 116, 105, 116]⟩ : ByteArray)] rfl (by (try simp only [List.map_toArray, List.map_cons, List.map_nil]); first | done | rfl | (simp only [List.length_drop, List.length_take]; rfl)) ?_; (with_reducible refine (entity_Find.calls k (⟨#[110, 111, 116, 105, 116]⟩ : ByteArray) t103 t104 _ (Wok_below hW (by repeat (first | (with_reducible first | exact HB.out | apply below_alloc | apply pw_below_drewN | apply below_drew1) | exact HB.out))) A1.out).mono ?_); rintro e w8 ⟨rfl, hb⟩; refine ⟨_, rfl, ?_⟩; have n0_ := Aside0.mk (below_step (by repeat (first | (with_reducible first | exact HB.out | apply below_alloc | apply pw_below_drewN | apply below_drew1) | exact HB.out)) hb); clear HB; have HB := n0_; clear n0_; (try clear hb); (try clear hb2); (try clear hk); (try clear hi)) | ((with_reducible refine gate_callee (f := 14) rfl ?_); refine goesL_ (some 10) rfl rfl Tryd.func14 (by kernel_rfl) rfl #[.string (⟨#[110, 111, 116, 105, 110, 59]⟩ : ByteArray)] rfl (by (try simp only [List.map_toArray, List.map_cons, List.map_nil]); first | done | rfl | (simp only [List.length_drop, List.length_take]; rfl)) ?_; (with_reducible refine (entity_Find.calls k (⟨#[110, 111, 116, 105, 110, 59]⟩ : ByteArray) t105 t106 _ (Wok_below hW (by repeat (first | (with_reducible first | exact HB.out | apply below_alloc | apply pw_below_drewN | apply below_drew1) | exact HB.out))) A2.out).mono ?_); rintro e w9 ⟨rfl, hb⟩; refine ⟨_, rfl, ?_⟩; have n0_ := Aside0.mk (below_step (by repeat (first | (with_reducible first | exact HB.out | apply below_alloc | apply pw_below_drewN | apply below_drew1) | exact HB.out)) hb); clear HB; have HB := n0_; clear n0_; (try clear hb); (try clear hb2); (try clear hk); (try clear hi)))
        go_ret
        exact ⟨by first | rfl | (simp [errW_none, errW_some] <;> rfl) | (simp [*, errW_none, errW_some] <;> rfl), by repeat (first | (with_reducible first | exact HB.out | apply below_alloc | apply pw_below_drewN | apply below_drew1) | exact HB.out)⟩
    · rw [if_neg c4] at H
      have c4b0 : (t104.toList == ([194, 172] : List UInt8)) = false := beq_eq_false_iff_ne.mpr c4
      have c4b1 : (t104.toList != ([194, 172] : List UInt8)) = true := bne_iff_ne.mpr c4
      obtain rfl := Option.some.inj H
      go_enter Tryd.func13, Tryd.ntmps13
      go_wp2_with (first | ((with_reducible refine gate_callee (f := 14) rfl ?_); refine goesL_ (some 6) rfl rfl Tryd.func14 (by kernel_rfl) rfl #[.string (⟨#[110, 111, 116, 105, 116]⟩ : ByteArray)] rfl (by (try simp only [List.map_toArray, List.map_cons, List.map_nil]); first | done | rfl | (simp only [List.length_drop, List.length_take]; rfl)) ?_; (with_reducible refine (entity_Find.calls k (⟨#[110, 111, 116, 105, 116]⟩ : ByteArray) t103 t104 _ (Wok_below hW (by repeat (first | (with_reducible first | exact HB.out | apply below_alloc | apply pw_below_drewN | apply below_drew1) | exact HB.out))) A1.out).mono ?_); rintro e w10 ⟨rfl, hb⟩; refine ⟨_, rfl, ?_⟩; have n0_ := Aside0.mk (below_step (by repeat (first | (with_reducible first | exact HB.out | apply below_alloc | apply pw_below_drewN | apply below_drew1) | exact HB.out)) hb); clear HB; have HB := n0_; clear n0_; (try clear hb); (try clear hb2); (try clear hk); (try clear hi)) | ((with_reducible refine gate_callee (f := 14) rfl ?_); refine goesL_ (some 10) rfl rfl Tryd.func14 (by kernel_rfl) rfl #[.string (⟨#[110, 111, 116, 105, 110, 59]⟩ : ByteArray)] rfl (by (try simp only [List.map_toArray, List.map_cons, List.map_nil]); first | done | rfl | (simp only [List.length_drop, List.length_take]; rfl)) ?_; (with_reducible refine (entity_Find.calls k (⟨#[110, 111, 116, 105, 110, 59]⟩ : ByteArray) t105 t106 _ (Wok_below hW (by repeat (first | (with_reducible first | exact HB.out | apply below_alloc | apply pw_below_drewN | apply below_drew1) | exact HB.out))) A2.out).mono ?_); rintro e w11 ⟨rfl, hb⟩; refine ⟨_, rfl, ?_⟩; have n0_ := Aside0.mk (below_step (by repeat (first | (with_reducible first | exact HB.out | apply below_alloc | apply pw_below_drewN | apply below_drew1) | exact HB.out)) hb); clear HB; have HB := n0_; clear n0_; (try clear hb); (try clear hb2); (try clear hk); (try clear hi)))
      go_ret
      exact ⟨by first | rfl | (simp [errW_none, errW_some] <;> rfl) | (simp [*, errW_none, errW_some] <;> rfl), by repeat (first | (with_reducible first | exact HB.out | apply below_alloc | apply pw_below_drewN | apply below_drew1) | exact HB.out)⟩
  · rw [if_neg c3] at H
    have c3b0 : (t103 == 3) = false := beq_eq_false_iff_ne.mpr c3
    have c3b1 : (t103 != 3) = true := bne_iff_ne.mpr c3
    obtain rfl := Option.some.inj H
    go_enter Tryd.func13, Tryd.ntmps13
    go_wp2_with (first | ((with_reducible refine gate_callee (f := 14) rfl ?_); refine goesL_ (some 6) rfl rfl Tryd.func14 (by kernel_rfl) rfl #[.string (⟨#[110, 111, 116, 105, 116]⟩ : ByteArray)] rfl (by (try simp only [List.map_toArray, List.map_cons, List.map_nil]); first | done | rfl | (simp only [List.length_drop, List.length_take]; rfl)) ?_; (with_reducible refine (entity_Find.calls k (⟨#[110, 111, 116, 105, 116]⟩ : ByteArray) t103 t104 _ (Wok_below hW (by repeat (first | (with_reducible first | exact HB.out | apply below_alloc | apply pw_below_drewN | apply below_drew1) | exact HB.out))) A1.out).mono ?_); rintro e w12 ⟨rfl, hb⟩; refine ⟨_, rfl, ?_⟩; have n0_ := Aside0.mk (below_step (by repeat (first | (with_reducible first | exact HB.out | apply below_alloc | apply pw_below_drewN | apply below_drew1) | exact HB.out)) hb); clear HB; have HB := n0_; clear n0_; (try clear hb); (try clear hb2); (try clear hk); (try clear hi)) | ((with_reducible refine gate_callee (f := 14) rfl ?_); refine goesL_ (some 10) rfl rfl Tryd.func14 (by kernel_rfl) rfl #[.string (⟨#[110, 111, 116, 105, 110, 59]⟩ : ByteArray)] rfl (by (try simp only [List.map_toArray, List.map_cons, List.map_nil]); first | done | rfl | (simp only [List.length_drop, List.length_take]; rfl)) ?_; (with_reducible refine (entity_Find.calls k (⟨#[110, 111, 116, 105, 110, 59]⟩ : ByteArray) t105 t106 _ (Wok_below hW (by repeat (first | (with_reducible first | exact HB.out | apply below_alloc | apply pw_below_drewN | apply below_drew1) | exact HB.out))) A2.out).mono ?_); rintro e w13 ⟨rfl, hb⟩; refine ⟨_, rfl, ?_⟩; have n0_ := Aside0.mk (below_step (by repeat (first | (with_reducible first | exact HB.out | apply below_alloc | apply pw_below_drewN | apply below_drew1) | exact HB.out)) hb); clear HB; have HB := n0_; clear n0_; (try clear hb); (try clear hb2); (try clear hk); (try clear hi)))
    go_ret
    exact ⟨by first | rfl | (simp [errW_none, errW_some] <;> rfl) | (simp [*, errW_none, errW_some] <;> rfl), by repeat (first | (with_reducible first | exact HB.out | apply below_alloc | apply pw_below_drewN | apply below_drew1) | exact HB.out)⟩

/-! ### decanterref04_Table: function 16 -/
/-- The document's names. -/
def decanterref04_Table.tab : List S30 := [⟨⟨#[65, 77, 80]⟩, true, [38]⟩, ⟨⟨#[71, 84]⟩, true, [62]⟩, ⟨⟨#[76, 84]⟩, true, [60]⟩, ⟨⟨#[81, 85, 79, 84]⟩, true, [34]⟩, ⟨⟨#[97, 109, 112]⟩, true, [38]⟩, ⟨⟨#[99, 111, 112, 121]⟩, true, [169]⟩, ⟨⟨#[100, 101, 103]⟩, true, [176]⟩, ⟨⟨#[100, 105, 118, 105, 100, 101]⟩, true, [247]⟩, ⟨⟨#[103, 116]⟩, true, [62]⟩, ⟨⟨#[108, 116]⟩, true, [60]⟩, ⟨⟨#[110, 98, 115, 112]⟩, true, [160]⟩, ⟨⟨#[110, 111, 116]⟩, true, [172]⟩, ⟨⟨#[112, 97, 114, 97]⟩, true, [182]⟩, ⟨⟨#[113, 117, 111, 116]⟩, true, [34]⟩, ⟨⟨#[114, 101, 103]⟩, true, [174]⟩, ⟨⟨#[115, 101, 99, 116]⟩, true, [167]⟩, ⟨⟨#[116, 105, 109, 101, 115]⟩, true, [215]⟩, ⟨⟨#[121, 101, 110]⟩, true, [165]⟩, ⟨⟨#[78, 101, 119, 76, 105, 110, 101]⟩, false, [10]⟩, ⟨⟨#[84, 97, 98]⟩, false, [9]⟩, ⟨⟨#[97, 99, 69]⟩, false, [8766, 819]⟩, ⟨⟨#[97, 108, 112, 104, 97]⟩, false, [945]⟩, ⟨⟨#[97, 112, 111, 115]⟩, false, [39]⟩, ⟨⟨#[98, 101, 116, 97]⟩, false, [946]⟩, ⟨⟨#[98, 117, 108, 108]⟩, false, [8226]⟩, ⟨⟨#[99, 111, 108, 111, 110]⟩, false, [58]⟩, ⟨⟨#[101, 117, 114, 111]⟩, false, [8364]⟩, ⟨⟨#[103, 101]⟩, false, [8805]⟩, ⟨⟨#[104, 101, 108, 108, 105, 112]⟩, false, [8230]⟩, ⟨⟨#[105, 110, 102, 105, 110]⟩, false, [8734]⟩, ⟨⟨#[108, 100, 113, 117, 111]⟩, false, [8220]⟩, ⟨⟨#[108, 101]⟩, false, [8804]⟩, ⟨⟨#[108, 112, 97, 114]⟩, false, [40]⟩, ⟨⟨#[108, 115, 113, 117, 111]⟩, false, [8216]⟩, ⟨⟨#[109, 100, 97, 115, 104]⟩, false, [8212]⟩, ⟨⟨#[110, 100, 97, 115, 104]⟩, false, [8211]⟩, ⟨⟨#[110, 111, 116, 105, 110]⟩, false, [8713]⟩, ⟨⟨#[110, 118, 108, 116]⟩, false, [60, 8402]⟩, ⟨⟨#[114, 100, 113, 117, 111]⟩, false, [8221]⟩, ⟨⟨#[114, 112, 97, 114]⟩, false, [41]⟩, ⟨⟨#[114, 115, 113, 117, 111]⟩, false, [8217]⟩, ⟨⟨#[115, 111, 108]⟩, false, [47]⟩, ⟨⟨#[116, 114, 97, 100, 101]⟩, false, [8482]⟩]
def decanterref04_Table.chars : List (List Int) := decanterref04_Table.tab.map (·.f2)
def decanterref04_Table.f : Option (List S30) := some decanterref04_Table.tab
def decanterref04_Table.allocs : World → List (List Int) → World
  | w, [] => w
  | w, c :: r => decanterref04_Table.allocs (w.alloc (.cells (c.map (Value.int .i64)).toArray 3)) r
theorem decanterref04_Table.allocs_below : ∀ (l : List (List Int)) (w : World), Below w.heap.size w (decanterref04_Table.allocs w l)
  | [], w => Below.refl _ _
  | c :: r, w => by
    have h1 : Below w.heap.size w (w.alloc (.cells (c.map (Value.int .i64)).toArray 3)) := (Below.refl _ _).alloc (Nat.le_refl _) _
    exact h1.trans ((decanterref04_Table.allocs_below r _).mono h1.size)
theorem decanterref04_Table.alloc_size (w : World) (o : Obj) : (w.alloc o).heap.size = w.heap.size + 1 := by
  show (w.heap.push o).size = _
  rw [Array.size_push]
theorem decanterref04_Table.allocs_size : ∀ (l : List (List Int)) (w : World), (decanterref04_Table.allocs w l).heap.size = w.heap.size + l.length
  | [], w => rfl
  | c :: r, w => by
    show (decanterref04_Table.allocs _ r).heap.size = _
    rw [decanterref04_Table.allocs_size r, decanterref04_Table.alloc_size, List.length_cons]
    omega
theorem decanterref04_Table.one (w : World) (base : Nat) (hb : base ≤ w.heap.size) (c : List Int) (hc : c.length ≤ 9) : Kd.R (Kd.int .i64) 3 (w.alloc (.cells (c.map (Value.int .i64)).toArray 3)) base (fun k => k = w.heap.size) (.slice (some ⟨w.heap.size, 0, none⟩) c.length c.length) c := by
  refine ⟨fun k hk => by simpa [Value.ownBlock] using hk.symm, ?_⟩
  refine OwnRow.lit w base ?_ hb (by omega)
  refine ⟨by rw [List.length_map]; show c.length = c.length * 1; omega, fun j p hp => ?_⟩
  have hj := (List.getElem?_eq_some_iff.1 hp).1
  show _ = _
  rw [← List.map_drop, ← List.map_take, show j * (Kd.int .i64).sz = j from Nat.mul_one j]
  have : (c.drop j).take (Kd.int .i64).sz = [p] := by
    show (c.drop j).take 1 = [p]
    rw [List.drop_eq_getElem_cons hj, List.take_succ_cons, List.take_zero]
    rw [List.getElem?_eq_getElem hj] at hp
    rw [Option.some.inj hp]
  rw [this]
  rfl
theorem decanterref04_Table.all : ∀ (l : List (List Int)) (w : World) (base : Nat) (_ : base ≤ w.heap.size) (_ : ∀ c ∈ l, c.length ≤ 9) (j : Nat) (c : List Int) (_ : l[j]? = some c),
    Kd.R (Kd.int .i64) 3 (decanterref04_Table.allocs w l) base (fun k => k = w.heap.size + j) (.slice (some ⟨w.heap.size + j, 0, none⟩) c.length c.length) c
  | [], _, _, _, _, _, _, h => by simp at h
  | c :: r, w, base, hb, hc, 0, x, h => by
    obtain rfl : c = x := by simpa using h
    exact Kd.R_below (decanterref04_Table.one w base hb c (hc c (List.mem_cons_self ..))) (decanterref04_Table.allocs_below r _)
  | c :: r, w, base, hb, hc, j + 1, x, h => by
    have ih := decanterref04_Table.all r (w.alloc (.cells (c.map (Value.int .i64)).toArray 3)) base (by rw [decanterref04_Table.alloc_size]; omega) (fun y hy => hc y (List.mem_cons_of_mem _ hy)) j x (by simpa using h)
    rw [decanterref04_Table.alloc_size, show w.heap.size + 1 + j = w.heap.size + (j + 1) by omega] at ih
    exact ih
def decanterref04_Table.cells (b : Nat) : Nat → List S30 → List Value
  | _, [] => []
  | j, x :: r => .string x.f0 :: .bool x.f1 :: .slice (some ⟨b + j, 0, none⟩) x.f2.length x.f2.length :: decanterref04_Table.cells b (j + 1) r
theorem decanterref04_Table.cells_at (b : Nat) : ∀ (l : List S30) (j : Nat), (decanterref04_Table.cells b j l).length = l.length * 3 ∧ ∀ i x, l[i]? = some x → ((decanterref04_Table.cells b j l).drop (i * 3)).take 3 = [.string x.f0, .bool x.f1, .slice (some ⟨b + (j + i), 0, none⟩) x.f2.length x.f2.length]
  | [], _ => ⟨rfl, fun _ _ h => by simp at h⟩
  | x :: r, j => by
    have ih := decanterref04_Table.cells_at b r (j + 1)
    refine ⟨by show (_ :: _ :: _ :: decanterref04_Table.cells b (j + 1) r).length = _; rw [List.length_cons, List.length_cons, List.length_cons, ih.1, List.length_cons]; omega, fun i p hp => ?_⟩
    cases i with
    | zero =>
      obtain rfl : x = p := by simpa using hp
      rfl
    | succ i =>
      have := ih.2 i p (by simpa using hp)
      rw [show (i + 1) * 3 = i * 3 + 3 by omega, show j + (i + 1) = j + 1 + i by omega]
      exact this
theorem decanterref04_Table.row (w : World) : Kd.S k30 30 ((decanterref04_Table.allocs w decanterref04_Table.chars).alloc (.cells (decanterref04_Table.cells w.heap.size 0 decanterref04_Table.tab).toArray 30)) w.heap.size (fun _ => True) (.slice (some ⟨w.heap.size + 43, 0, none⟩) 43 43) decanterref04_Table.tab := by
  have hsz : (decanterref04_Table.allocs w decanterref04_Table.chars).heap.size = w.heap.size + 43 := decanterref04_Table.allocs_size _ _
  have hl : decanterref04_Table.tab.length = 43 := rfl
  have hlz : decanterref04_Table.tab.zipIdx.length = 43 := by rw [List.length_zipIdx, hl]
  refine ⟨fun k => k - w.heap.size, fun _ _ => trivial, ?_⟩
  have hat := decanterref04_Table.cells_at w.heap.size decanterref04_Table.tab 0
  have hfin : OwnRow ((Kd.tag (fun k => k - w.heap.size) k30).M ((decanterref04_Table.allocs w decanterref04_Table.chars).alloc (.cells (decanterref04_Table.cells w.heap.size 0 decanterref04_Table.tab).toArray 30)) w.heap.size (fun k => True ∧ some k ≠ (Value.slice (some ⟨(decanterref04_Table.allocs w decanterref04_Table.chars).heap.size, 0, none⟩) decanterref04_Table.tab.zipIdx.length decanterref04_Table.tab.zipIdx.length).ownBlock)) 30 3
      ((decanterref04_Table.allocs w decanterref04_Table.chars).alloc (.cells (decanterref04_Table.cells w.heap.size 0 decanterref04_Table.tab).toArray 30)) w.heap.size (.slice (some ⟨(decanterref04_Table.allocs w decanterref04_Table.chars).heap.size, 0, none⟩) decanterref04_Table.tab.zipIdx.length decanterref04_Table.tab.zipIdx.length) decanterref04_Table.tab.zipIdx := by
    refine OwnRow.lit _ _ ⟨by rw [hat.1, hlz, hl], fun i p hp => ?_⟩ (by rw [hsz]; omega) (by rw [hlz]; omega)
    obtain ⟨x, hx, rfl⟩ : ∃ x, decanterref04_Table.tab[i]? = some x ∧ p = (x, i) := by
      rw [List.getElem?_zipIdx] at hp
      obtain ⟨x, hx, rfl⟩ := Option.map_eq_some_iff.1 hp
      exact ⟨x, hx, by rw [Nat.zero_add]⟩
    rw [hat.2 i x hx, Nat.zero_add]
    have hi : i < 43 := by rw [← hl]; exact (List.getElem?_eq_some_iff.1 hx).1
    have h1 := decanterref04_Table.all decanterref04_Table.chars w w.heap.size (Nat.le_refl _) (by decide) i x.f2 (by unfold decanterref04_Table.chars; rw [List.getElem?_map, hx]; rfl)
    refine k30_mkM _ _ _ x ?_
    refine Kd.R_mono (Kd.R_alloc h1 _) fun k hk => ⟨⟨trivial, ?_⟩, ?_⟩
    · rw [hk]
      intro h
      have : w.heap.size + i = (decanterref04_Table.allocs w decanterref04_Table.chars).heap.size := by simpa [Value.ownBlock] using h
      omega
    · show k - w.heap.size = i
      omega
  rw [hsz, hlz] at hfin
  exact hfin
set_option maxHeartbeats 8000000 in
set_option maxRecDepth 1000000 in
theorem decanterref04_Table.calls (r : List S30) (w : World) (_hW : Wok w) (h : decanterref04_Table.f = some r) :
    Calls Tryd.prog 16 #[] w fun e w' => ∃ v0_ : Value, e = .returned v0_ ∧ Kd.S k30 30 w' w.heap.size (fun _ => True) v0_ r ∧ Below w.heap.size w w' := by
  obtain rfl := Option.some.inj h
  have HR := Lib.hid (decanterref04_Table.row w)
  have HB := Lib.hid ((decanterref04_Table.allocs_below decanterref04_Table.chars w).alloc ((decanterref04_Table.allocs_below decanterref04_Table.chars w).size) (.cells (decanterref04_Table.cells w.heap.size 0 decanterref04_Table.tab).toArray 30))
  clear h _hW
  go_enter Tryd.func16, Tryd.ntmps16
  go_wp2
  go_ret
  exact ⟨_, rfl, HR.out, HB.out⟩

/-! ### decanterref04_Begins: function 28 -/
def decanterref04_Begins.f (a0 : ByteArray) (a1 : ByteArray) : Option (Bool) := if (a0.size : Int) ≥ (a1.size : Int) then (if 0 ≤ (a1.size : Int) then (if (a1.size : Int) ≤ (a0.size : Int) then (some ((a0.extract 0 ((a1.size : Int) : Int).toNat).toList == a1.toList)) else (none)) else (none)) else (some false)
set_option maxHeartbeats 8000000 in
set_option maxRecDepth 100000 in
theorem decanterref04_Begins.calls (a0 : ByteArray) (a1 : ByteArray) (r : Bool) (w : World) (h : decanterref04_Begins.f a0 a1 = some r) :
    Calls Tryd.prog 28 #[.string a0, .string a1] w fun e w' => e = .returned (.bool r) ∧ Drawn0 w w' := by
  have H : (if (a0.size : Int) ≥ (a1.size : Int) then (if 0 ≤ (a1.size : Int) then (if (a1.size : Int) ≤ (a0.size : Int) then (some ((a0.extract 0 ((a1.size : Int) : Int).toNat).toList == a1.toList)) else (none)) else (none)) else (some false)) = some r := h
  clear h
  by_cases c3 : (a0.size : Int) ≥ (a1.size : Int)
  · rw [if_pos c3] at H
    have c3b0 : decide ((a1.size : Int) ≤ (a0.size : Int)) = true := decide_eq_true c3
    have c3b1 : decide (a1.size ≤ a0.size) = true := decide_eq_true (Int.ofNat_le.mp c3)
    clear c3
    by_cases c4 : 0 ≤ (a1.size : Int)
    · rw [if_pos c4] at H
      have c4b0 := eq_true c4
      have c4b1 : decide (0 ≤ (a1.size : Int)) = true := decide_eq_true c4
      clear c4
      by_cases c5 : (a1.size : Int) ≤ (a0.size : Int)
      · rw [if_pos c5] at H
        have c5b0 := eq_true c5
        have c5b1 : decide ((a1.size : Int) ≤ (a0.size : Int)) = true := decide_eq_true c5
        clear c5
        obtain rfl := Option.some.inj H
        go_enter Tryd.func28, Tryd.ntmps28
        go_wp2
        go_ret
        exact ⟨by first | rfl | (simp; done) | (simp [*]; done), by repeat (first | exact Drawn0.refl _ | apply Drawn0.step)⟩
      · rw [if_neg c5] at H
        exact absurd H (by simp)
    · rw [if_neg c4] at H
      exact absurd H (by simp)
  · rw [if_neg c3] at H
    have c3b0 : decide ((a1.size : Int) ≤ (a0.size : Int)) = false := decide_eq_false c3
    have c3b1 : decide (a1.size ≤ a0.size) = false := decide_eq_false (fun h => c3 (Int.ofNat_le.mpr h))
    clear c3
    obtain rfl := Option.some.inj H
    go_enter Tryd.func28, Tryd.ntmps28
    go_wp2
    go_ret
    exact ⟨by first | rfl | (simp; done) | (simp [*]; done), by repeat (first | exact Drawn0.refl _ | apply Drawn0.step)⟩

/-! ### decanterref02_UTF: function 37 -/
def decanterref02_UTF.f (a0 : Int) : Option (List Int) := if a0 < 128 then (some (([(a0) % 256] : List Int))) else (if a0 < 2048 then (some (([(wrap64 (192 + (wrap64 (Int.tdiv a0 64)))) % 256, (wrap64 (128 + (Int.tmod a0 64))) % 256] : List Int))) else (if a0 < 65536 then (some (([(wrap64 (224 + (wrap64 (Int.tdiv a0 4096)))) % 256, (wrap64 (128 + (Int.tmod (wrap64 (Int.tdiv a0 64)) 64))) % 256, (wrap64 (128 + (Int.tmod a0 64))) % 256] : List Int))) else (some (([(wrap64 (240 + (wrap64 (Int.tdiv a0 262144)))) % 256, (wrap64 (128 + (Int.tmod (wrap64 (Int.tdiv a0 4096)) 64))) % 256, (wrap64 (128 + (Int.tmod (wrap64 (Int.tdiv a0 64)) 64))) % 256, (wrap64 (128 + (Int.tmod a0 64))) % 256] : List Int)))))
set_option maxHeartbeats 8000000 in
set_option maxRecDepth 100000 in
theorem decanterref02_UTF.calls (a0 : Int) (r : List Int) (w : World) (h : decanterref02_UTF.f a0 = some r) :
    Calls Tryd.prog 37 #[.int .i64 a0] w fun e w' => ∃ v0_ : Value, e = .returned (v0_) ∧ Kd.R (Kd.int .u8) 5 w' w.heap.size (fun _ => True) v0_ r ∧ Below w.heap.size w w' := by
  have HB := Aside0.mk (Below.refl w.heap.size w)
  have H : (if a0 < 128 then (some (([(a0) % 256] : List Int))) else (if a0 < 2048 then (some (([(wrap64 (192 + (wrap64 (Int.tdiv a0 64)))) % 256, (wrap64 (128 + (Int.tmod a0 64))) % 256] : List Int))) else (if a0 < 65536 then (some (([(wrap64 (224 + (wrap64 (Int.tdiv a0 4096)))) % 256, (wrap64 (128 + (Int.tmod (wrap64 (Int.tdiv a0 64)) 64))) % 256, (wrap64 (128 + (Int.tmod a0 64))) % 256] : List Int))) else (some (([(wrap64 (240 + (wrap64 (Int.tdiv a0 262144)))) % 256, (wrap64 (128 + (Int.tmod (wrap64 (Int.tdiv a0 4096)) 64))) % 256, (wrap64 (128 + (Int.tmod (wrap64 (Int.tdiv a0 64)) 64))) % 256, (wrap64 (128 + (Int.tmod a0 64))) % 256] : List Int)))))) = some r := h
  clear h
  by_cases c2 : a0 < 128
  · rw [if_pos c2] at H
    have c2b0 : decide (a0 < 128) = true := decide_eq_true c2
    clear c2
    obtain ⟨y107, hy107⟩ : ∃ y_ : List Int, y_ = (([(a0) % 256] : List Int)) := ⟨_, rfl⟩
    replace H : (some y107) = some r := by first | (rw [hy107]; with_reducible exact H) | (have H2_ := (Option.bind_some _ _).symm.trans H; rw [hy107]; with_reducible exact H2_) | (have H2_ := (Option.bind_some _ _).symm.trans H; with_reducible exact H2_) | with_reducible exact H | (rw [hy107]; exact H) | exact H
    have Ny107 := Aside0.mk hy107
    clear hy107
    obtain rfl := Option.some.inj H
    go_enter Tryd.func37, Tryd.ntmps37
    go_wp2_with (first | ((with_reducible refine gate_dst (N := 7) rfl ?_); refine Kd.R_lit (Kd.int .u8) _ 5 ?hg (N := 7) ?hd (xs := ([(a0) % 256] : List Int)) (inner := [.int .u8 ((a0) % 256)]) (ok := fun _ => True) (okp := fun _ => True) ?hr ?hp (fun _ hk => hk) trivial (Below.refl _ _) (Nat.le_refl _) (by simp) ?_; (case hd => rfl); (case hg => rfl); (case hr => first | (go_simp; done) | (go_simp; rfl)); (case hp => exact (Reps.one (show Kd.M (Kd.int .u8) _ _ _ ((a0) % 256) [.int .u8 ((a0) % 256)] from rfl) (Reps.none _ _))); intro v108 w3 ho4 hb hg_ hnew_; clear hg_ hnew_; (first | rw [← Ny107.out] at ho4 | (simp only [Int.reduceToNat] at ho4; rw [← Ny107.out] at ho4)); have n0_ := Aside0.mk (Kd.R_lower ho4 (below_size (by repeat (first | (with_reducible first | exact HB.out | apply below_alloc | apply pw_below_drewN | apply below_drew1) | exact HB.out)))); have n1_ := Aside0.mk (below_step (by repeat (first | (with_reducible first | exact HB.out | apply below_alloc | apply pw_below_drewN | apply below_drew1) | exact HB.out)) hb); clear HB; have HO109 := n0_; have HB := n1_; clear n0_ n1_; clear hb ho4))
    go_ret
    exact ⟨_, by first | rfl | (simp [errW_none, errW_some] <;> rfl) | (simp [*, errW_none, errW_some] <;> rfl), by (with_reducible repeat (first | apply Kd.R_alloc | apply Kd.R_drewN | apply Kd.R_drew)); exact HO109.out, by repeat (first | (with_reducible first | exact HB.out | apply below_alloc | apply pw_below_drewN | apply below_drew1) | exact HB.out)⟩
  · rw [if_neg c2] at H
    have c2b0 : decide (a0 < 128) = false := decide_eq_false c2
    clear c2
    by_cases c5 : a0 < 2048
    · rw [if_pos c5] at H
      have c5b0 : decide (a0 < 2048) = true := decide_eq_true c5
      clear c5
      obtain ⟨y110, hy110⟩ : ∃ y_ : List Int, y_ = (([(wrap64 (192 + (wrap64 (Int.tdiv a0 64)))) % 256, (wrap64 (128 + (Int.tmod a0 64))) % 256] : List Int)) := ⟨_, rfl⟩
      replace H : (some y110) = some r := by first | (rw [hy110]; with_reducible exact H) | (have H2_ := (Option.bind_some _ _).symm.trans H; rw [hy110]; with_reducible exact H2_) | (have H2_ := (Option.bind_some _ _).symm.trans H; with_reducible exact H2_) | with_reducible exact H | (rw [hy110]; exact H) | exact H
      have Ny110 := Aside0.mk hy110
      clear hy110
      obtain rfl := Option.some.inj H
      go_enter Tryd.func37, Tryd.ntmps37
      go_wp2_with (first | ((with_reducible refine gate_dst (N := 18) rfl ?_); refine Kd.R_lit (Kd.int .u8) _ 5 ?hg (N := 18) ?hd (xs := ([(wrap64 (192 + (wrap64 (Int.tdiv a0 64)))) % 256, (wrap64 (128 + (Int.tmod a0 64))) % 256] : List Int)) (inner := [.int .u8 ((wrap64 (192 + (wrap64 (Int.tdiv a0 64)))) % 256), .int .u8 ((wrap64 (128 + (Int.tmod a0 64))) % 256)]) (ok := fun _ => True) (okp := fun _ => True) ?hr ?hp (fun _ hk => hk) trivial (Below.refl _ _) (Nat.le_refl _) (by simp) ?_; (case hd => rfl); (case hg => rfl); (case hr => first | (go_simp; done) | (go_simp; rfl)); (case hp => exact (Reps.one (show Kd.M (Kd.int .u8) _ _ _ ((wrap64 (192 + (wrap64 (Int.tdiv a0 64)))) % 256) [.int .u8 ((wrap64 (192 + (wrap64 (Int.tdiv a0 64)))) % 256)] from rfl) (Reps.one (show Kd.M (Kd.int .u8) _ _ _ ((wrap64 (128 + (Int.tmod a0 64))) % 256) [.int .u8 ((wrap64 (128 + (Int.tmod a0 64))) % 256)] from rfl) (Reps.none _ _)))); intro v111 w6 ho7 hb hg_ hnew_; clear hg_ hnew_; (first | rw [← Ny110.out] at ho7 | (simp only [Int.reduceToNat] at ho7; rw [← Ny110.out] at ho7)); have n0_ := Aside0.mk (Kd.R_lower ho7 (below_size (by repeat (first | (with_reducible first | exact HB.out | apply below_alloc | apply pw_below_drewN | apply below_drew1) | exact HB.out)))); have n1_ := Aside0.mk (below_step (by repeat (first | (with_reducible first | exact HB.out | apply below_alloc | apply pw_below_drewN | apply below_drew1) | exact HB.out)) hb); clear HB; have HO112 := n0_; have HB := n1_; clear n0_ n1_; clear hb ho7))
      go_ret
      exact ⟨_, by first | rfl | (simp [errW_none, errW_some] <;> rfl) | (simp [*, errW_none, errW_some] <;> rfl), by (with_reducible repeat (first | apply Kd.R_alloc | apply Kd.R_drewN | apply Kd.R_drew)); exact HO112.out, by repeat (first | (with_reducible first | exact HB.out | apply below_alloc | apply pw_below_drewN | apply below_drew1) | exact HB.out)⟩
    · rw [if_neg c5] at H
      have c5b0 : decide (a0 < 2048) = false := decide_eq_false c5
      clear c5
      by_cases c8 : a0 < 65536
      · rw [if_pos c8] at H
        have c8b0 : decide (a0 < 65536) = true := decide_eq_true c8
        clear c8
        obtain ⟨y113, hy113⟩ : ∃ y_ : List Int, y_ = (([(wrap64 (224 + (wrap64 (Int.tdiv a0 4096)))) % 256, (wrap64 (128 + (Int.tmod (wrap64 (Int.tdiv a0 64)) 64))) % 256, (wrap64 (128 + (Int.tmod a0 64))) % 256] : List Int)) := ⟨_, rfl⟩
        replace H : (some y113) = some r := by first | (rw [hy113]; with_reducible exact H) | (have H2_ := (Option.bind_some _ _).symm.trans H; rw [hy113]; with_reducible exact H2_) | (have H2_ := (Option.bind_some _ _).symm.trans H; with_reducible exact H2_) | with_reducible exact H | (rw [hy113]; exact H) | exact H
        have Ny113 := Aside0.mk hy113
        clear hy113
        obtain rfl := Option.some.inj H
        go_enter Tryd.func37, Tryd.ntmps37
        go_wp2_with (first | ((with_reducible refine gate_dst (N := 34) rfl ?_); refine Kd.R_lit (Kd.int .u8) _ 5 ?hg (N := 34) ?hd (xs := ([(wrap64 (224 + (wrap64 (Int.tdiv a0 4096)))) % 256, (wrap64 (128 + (Int.tmod (wrap64 (Int.tdiv a0 64)) 64))) % 256, (wrap64 (128 + (Int.tmod a0 64))) % 256] : List Int)) (inner := [.int .u8 ((wrap64 (224 + (wrap64 (Int.tdiv a0 4096)))) % 256), .int .u8 ((wrap64 (128 + (Int.tmod (wrap64 (Int.tdiv a0 64)) 64))) % 256), .int .u8 ((wrap64 (128 + (Int.tmod a0 64))) % 256)]) (ok := fun _ => True) (okp := fun _ => True) ?hr ?hp (fun _ hk => hk) trivial (Below.refl _ _) (Nat.le_refl _) (by simp) ?_; (case hd => rfl); (case hg => rfl); (case hr => first | (go_simp; done) | (go_simp; rfl)); (case hp => exact (Reps.one (show Kd.M (Kd.int .u8) _ _ _ ((wrap64 (224 + (wrap64 (Int.tdiv a0 4096)))) % 256) [.int .u8 ((wrap64 (224 + (wrap64 (Int.tdiv a0 4096)))) % 256)] from rfl) (Reps.one (show Kd.M (Kd.int .u8) _ _ _ ((wrap64 (128 + (Int.tmod (wrap64 (Int.tdiv a0 64)) 64))) % 256) [.int .u8 ((wrap64 (128 + (Int.tmod (wrap64 (Int.tdiv a0 64)) 64))) % 256)] from rfl) (Reps.one (show Kd.M (Kd.int .u8) _ _ _ ((wrap64 (128 + (Int.tmod a0 64))) % 256) [.int .u8 ((wrap64 (128 + (Int.tmod a0 64))) % 256)] from rfl) (Reps.none _ _))))); intro v114 w9 ho10 hb hg_ hnew_; clear hg_ hnew_; (first | rw [← Ny113.out] at ho10 | (simp only [Int.reduceToNat] at ho10; rw [← Ny113.out] at ho10)); have n0_ := Aside0.mk (Kd.R_lower ho10 (below_size (by repeat (first | (with_reducible first | exact HB.out | apply below_alloc | apply pw_below_drewN | apply below_drew1) | exact HB.out)))); have n1_ := Aside0.mk (below_step (by repeat (first | (with_reducible first | exact HB.out | apply below_alloc | apply pw_below_drewN | apply below_drew1) | exact HB.out)) hb); clear HB; have HO115 := n0_; have HB := n1_; clear n0_ n1_; clear hb ho10))
        go_ret
        exact ⟨_, by first | rfl | (simp [errW_none, errW_some] <;> rfl) | (simp [*, errW_none, errW_some] <;> rfl), by (with_reducible repeat (first | apply Kd.R_alloc | apply Kd.R_drewN | apply Kd.R_drew)); exact HO115.out, by repeat (first | (with_reducible first | exact HB.out | apply below_alloc | apply pw_below_drewN | apply below_drew1) | exact HB.out)⟩
      · rw [if_neg c8] at H
        have c8b0 : decide (a0 < 65536) = false := decide_eq_false c8
        clear c8
        obtain ⟨y116, hy116⟩ : ∃ y_ : List Int, y_ = (([(wrap64 (240 + (wrap64 (Int.tdiv a0 262144)))) % 256, (wrap64 (128 + (Int.tmod (wrap64 (Int.tdiv a0 4096)) 64))) % 256, (wrap64 (128 + (Int.tmod (wrap64 (Int.tdiv a0 64)) 64))) % 256, (wrap64 (128 + (Int.tmod a0 64))) % 256] : List Int)) := ⟨_, rfl⟩
        replace H : (some y116) = some r := by first | (rw [hy116]; with_reducible exact H) | (have H2_ := (Option.bind_some _ _).symm.trans H; rw [hy116]; with_reducible exact H2_) | (have H2_ := (Option.bind_some _ _).symm.trans H; with_reducible exact H2_) | with_reducible exact H | (rw [hy116]; exact H) | exact H
        have Ny116 := Aside0.mk hy116
        clear hy116
        obtain rfl := Option.some.inj H
        go_enter Tryd.func37, Tryd.ntmps37
        go_wp2_with (first | ((with_reducible refine gate_dst (N := 53) rfl ?_); refine Kd.R_lit (Kd.int .u8) _ 5 ?hg (N := 53) ?hd (xs := ([(wrap64 (240 + (wrap64 (Int.tdiv a0 262144)))) % 256, (wrap64 (128 + (Int.tmod (wrap64 (Int.tdiv a0 4096)) 64))) % 256, (wrap64 (128 + (Int.tmod (wrap64 (Int.tdiv a0 64)) 64))) % 256, (wrap64 (128 + (Int.tmod a0 64))) % 256] : List Int)) (inner := [.int .u8 ((wrap64 (240 + (wrap64 (Int.tdiv a0 262144)))) % 256), .int .u8 ((wrap64 (128 + (Int.tmod (wrap64 (Int.tdiv a0 4096)) 64))) % 256), .int .u8 ((wrap64 (128 + (Int.tmod (wrap64 (Int.tdiv a0 64)) 64))) % 256), .int .u8 ((wrap64 (128 + (Int.tmod a0 64))) % 256)]) (ok := fun _ => True) (okp := fun _ => True) ?hr ?hp (fun _ hk => hk) trivial (Below.refl _ _) (Nat.le_refl _) (by simp) ?_; (case hd => rfl); (case hg => rfl); (case hr => first | (go_simp; done) | (go_simp; rfl)); (case hp => exact (Reps.one (show Kd.M (Kd.int .u8) _ _ _ ((wrap64 (240 + (wrap64 (Int.tdiv a0 262144)))) % 256) [.int .u8 ((wrap64 (240 + (wrap64 (Int.tdiv a0 262144)))) % 256)] from rfl) (Reps.one (show Kd.M (Kd.int .u8) _ _ _ ((wrap64 (128 + (Int.tmod (wrap64 (Int.tdiv a0 4096)) 64))) % 256) [.int .u8 ((wrap64 (128 + (Int.tmod (wrap64 (Int.tdiv a0 4096)) 64))) % 256)] from rfl) (Reps.one (show Kd.M (Kd.int .u8) _ _ _ ((wrap64 (128 + (Int.tmod (wrap64 (Int.tdiv a0 64)) 64))) % 256) [.int .u8 ((wrap64 (128 + (Int.tmod (wrap64 (Int.tdiv a0 64)) 64))) % 256)] from rfl) (Reps.one (show Kd.M (Kd.int .u8) _ _ _ ((wrap64 (128 + (Int.tmod a0 64))) % 256) [.int .u8 ((wrap64 (128 + (Int.tmod a0 64))) % 256)] from rfl) (Reps.none _ _)))))); intro v117 w11 ho12 hb hg_ hnew_; clear hg_ hnew_; (first | rw [← Ny116.out] at ho12 | (simp only [Int.reduceToNat] at ho12; rw [← Ny116.out] at ho12)); have n0_ := Aside0.mk (Kd.R_lower ho12 (below_size (by repeat (first | (with_reducible first | exact HB.out | apply below_alloc | apply pw_below_drewN | apply below_drew1) | exact HB.out)))); have n1_ := Aside0.mk (below_step (by repeat (first | (with_reducible first | exact HB.out | apply below_alloc | apply pw_below_drewN | apply below_drew1) | exact HB.out)) hb); clear HB; have HO118 := n0_; have HB := n1_; clear n0_ n1_; clear hb ho12))
        go_ret
        exact ⟨_, by first | rfl | (simp [errW_none, errW_some] <;> rfl) | (simp [*, errW_none, errW_some] <;> rfl), by (with_reducible repeat (first | apply Kd.R_alloc | apply Kd.R_drewN | apply Kd.R_drew)); exact HO118.out, by repeat (first | (with_reducible first | exact HB.out | apply below_alloc | apply pw_below_drewN | apply below_drew1) | exact HB.out)⟩

/-! ### decanterref04_Text: function 29 -/
def decanterref04_Text.l0 : Nat → List Int → List Int → Int → Option (ByteArray)
  | 0, _, _, _ => none
  | k + 1, x0, x3, x4 => if x4 < (x0.length : Int) then (if 0 ≤ x4 then ((decanterref02_UTF.f (rd x0 x4)).bind fun t123 => (if x3.length + t123.length < 140737488355328 then (decanterref04_Text.l0 k x0 (x3 ++ t123) (wrap64 (x4 + 1))) else (none))) else (none)) else (some (strOfNums x3))
def decanterref04_Text.f (k : Nat) (l0 : List Int) : Option (ByteArray) := decanterref04_Text.l0 k l0 (([] : List Int)) 0
theorem decanterref04_Text.mono_l : ∀ k, (∀ y0 y1 y2, LeO (decanterref04_Text.l0 k y0 y1 y2) (decanterref04_Text.l0 (k + 1) y0 y1 y2))
  | 0 => fun _ _ _ r h => by simp [decanterref04_Text.l0] at h
  | k + 1 => by
    have ih0 := decanterref04_Text.mono_l k
    · intro y0 y1 y2
      unfold decanterref04_Text.l0
      repeat' first
      | (with_reducible exact ih0 _ _ _)
      | (with_reducible exact LeO.refl _)
      | (with_reducible exact LeO.none _)
      | (with_reducible refine LeO.ite ?_ ?_)
      | (with_reducible refine LeO.bind ?_ (fun _ => ?_))
      | exact ih0 _ _ _
      | exact LeO.none _
      | refine LeO.ite ?_ ?_
      | refine LeO.bind ?_ (fun _ => ?_)
theorem decanterref04_Text.mono : ∀ a0 k, LeO (decanterref04_Text.f k a0) (decanterref04_Text.f (k + 1) a0) := by
  intro a0 k
  have ih0 := decanterref04_Text.mono_l k
  unfold decanterref04_Text.f
  repeat' first
      | (with_reducible exact ih0 _ _ _)
      | (with_reducible exact LeO.refl _)
      | (with_reducible exact LeO.none _)
      | (with_reducible refine LeO.ite ?_ ?_)
      | (with_reducible refine LeO.bind ?_ (fun _ => ?_))
      | exact ih0 _ _ _
      | exact LeO.none _
      | refine LeO.ite ?_ ?_
      | refine LeO.bind ?_ (fun _ => ?_)
set_option maxHeartbeats 8000000 in
set_option maxRecDepth 100000 in
theorem decanterref04_Text.calls (k : Nat) (A0 : Option Addr) (c0 : Nat) (l0 : List Int) (r : ByteArray) (w : World) (hr0 : Kd.C (Kd.int .i64) w A0 l0.length l0) (hc0 : l0.length ≤ c0) (h : decanterref04_Text.f k l0 = some r) :
    Calls Tryd.prog 29 #[.slice A0 l0.length c0] w fun e w' => e = .returned (.string r) ∧ Below w.heap.size w w' := by
  have HR0 := Aside0.mk hr0
  have HC0 := Aside0.mk hc0
  clear hr0 hc0
  have HB := Aside0.mk (Below.refl w.heap.size w)
  have H : (decanterref04_Text.l0 k l0 (([] : List Int)) 0) = some r := h
  clear h
  obtain ⟨y119, hy119⟩ : ∃ y_ : List Int, y_ = (([] : List Int)) := ⟨_, rfl⟩
  replace H : (decanterref04_Text.l0 k l0 y119 0) = some r := by first | (rw [hy119]; with_reducible exact H) | (have H2_ := (Option.bind_some _ _).symm.trans H; rw [hy119]; with_reducible exact H2_) | (have H2_ := (Option.bind_some _ _).symm.trans H; with_reducible exact H2_) | with_reducible exact H | (rw [hy119]; exact H) | exact H
  have Ny119 := Aside0.mk hy119
  clear hy119
  have H' := Aside0.mk H
  clear H
  go_enter Tryd.func29, Tryd.ntmps29
  go_wp2_with (first | ((with_reducible refine gate_dst (N := 5) rfl ?_); refine Kd.R_lit (Kd.int .u8) _ 5 ?hg (N := 5) ?hd (xs := ([] : List Int)) (inner := []) (ok := fun _ => True) (okp := fun _ => True) ?hr ?hp (fun _ hk => hk) trivial (Below.refl _ _) (Nat.le_refl _) (by simp) ?_; (case hd => rfl); (case hg => rfl); (case hr => first | (go_simp; done) | (go_simp; rfl)); (case hp => exact (Reps.none _ _)); intro v120 w2 ho3 hb hg_ hnew_; clear hg_ hnew_; (first | rw [← Ny119.out] at ho3 | (simp only [Int.reduceToNat] at ho3; rw [← Ny119.out] at ho3)); have n0_ := Aside0.mk (Kd.R_lower ho3 (below_size (by repeat (first | (with_reducible first | exact HB.out | apply below_alloc | apply pw_below_drewN | apply below_drew1) | exact HB.out)))); have n1_ := Aside0.mk (below_step (by repeat (first | (with_reducible first | exact HB.out | apply below_alloc | apply pw_below_drewN | apply below_drew1) | exact HB.out)) hb); clear HB; have HO121 := n0_; have HB := n1_; clear n0_ n1_; clear hb ho3))
  go_loopg [3, 4] k (fun kq v3 v4 w' => ∃ (x3_1 : List Int) (x4_1 : Int), v4 = .int .i64 x4_1 ∧ Aside0 (decanterref04_Text.l0 kq l0 x3_1 x4_1 = some r) ∧ Aside0 (kq ≤ k) ∧ Aside0 (Kd.R (Kd.int .u8) 5 w' w.heap.size (fun _ => True) v3 x3_1) ∧ Aside0 (Below w.heap.size w w'))
  case atStart => exact ⟨(y119), (0), (by first | rfl | (simp; done) | (simp [*]; done)), H', ⟨Nat.le_refl _⟩, ⟨by (with_reducible repeat (first | apply Kd.R_alloc | apply Kd.R_drewN | apply Kd.R_drew)); exact HO121.out⟩, ⟨by repeat (first | (with_reducible first | exact HB.out | apply below_alloc | apply pw_below_drewN | apply below_drew1) | exact HB.out)⟩⟩
  case round =>
    clear H'
    try clear c2
    try clear p2
    obtain ⟨x3_1, x4_1, rfl, HA, HK1, HO_3, HB⟩ := hrel
    cases gk with
    | zero => exact absurd HA.out (by simp [decanterref04_Text.l0])
    | succ k1 =>
      have H := HA.out
      clear HA
      simp only [decanterref04_Text.l0] at H
      by_cases c4 : x4_1 < (l0.length : Int)
      · rw [if_pos c4] at H
        have c4b0 : decide (x4_1 < (l0.length : Int)) = true := decide_eq_true c4
        clear c4
        by_cases c5 : 0 ≤ x4_1
        · rw [if_pos c5] at H
          have c5b0 : decide (0 ≤ x4_1) = true := decide_eq_true c5
          clear c5
          replace H := Option.bind_eq_some_iff.mp H
          obtain ⟨t123, A60, H⟩ := H
          replace H : (if x3_1.length + t123.length < 140737488355328 then (decanterref04_Text.l0 k1 l0 (x3_1 ++ t123) (wrap64 (x4_1 + 1))) else (none)) = some r := H
          have A6 := Aside0.mk A60
          clear A60
          by_cases c7 : x3_1.length + t123.length < 140737488355328
          · rw [if_pos c7] at H
            have LMc7 := Aside0.mk c7
            clear c7
            obtain ⟨y126, hy126⟩ : ∃ y_ : List Int, y_ = (x3_1 ++ t123) := ⟨_, rfl⟩
            replace H : (decanterref04_Text.l0 k1 l0 y126 (wrap64 (x4_1 + 1))) = some r := by first | (rw [hy126]; with_reducible exact H) | (have H2_ := (Option.bind_some _ _).symm.trans H; rw [hy126]; with_reducible exact H2_) | (have H2_ := (Option.bind_some _ _).symm.trans H; with_reducible exact H2_) | with_reducible exact H | (rw [hy126]; exact H) | exact H
            have Ny126 := Aside0.mk hy126
            clear hy126
            have H' := Aside0.mk H
            clear H
            have p122 : 0 ≤ (x4_1 : Int) := of_decide_eq_true (by first | (with_reducible assumption) | assumption)
            have q122 : x4_1 < (l0.length : Int) := of_decide_eq_true (by first | (with_reducible assumption) | assumption)
            obtain ⟨ad122, e122, hx122_0⟩ := Kd.at_int HR0.out x4_1 p122 q122
            cases e122
            replace hx122_0 := (HB.out.cell (World.block_lt_of_cell? w _ hx122_0)).trans hx122_0
            replace p122 := eq_true p122
            replace q122 := eq_true q122
            go_wp2_with (first | ((with_reducible refine gate_callee (f := 37) rfl ?_); refine goesL_ (some 17) rfl rfl Tryd.func37 (by kernel_rfl) rfl #[.int .i64 (rd l0 x4_1)] rfl (by (try simp only [List.map_toArray, List.map_cons, List.map_nil]); first | done | rfl | (simp only [List.length_drop, List.length_take]; rfl)) ?_; (with_reducible refine (decanterref02_UTF.calls (rd l0 x4_1) t123 _ A6.out).mono ?_); rintro e w8 ⟨v124, rfl, ho0, hb⟩; refine ⟨_, rfl, ?_⟩; have n0_ := Aside0.mk (Kd.R_elder' (by (with_reducible repeat (first | apply Kd.R_alloc | apply Kd.R_drewN | apply Kd.R_drew)); exact HO_3.out) (Kd.R_base ho0) hb); have n1_ := Aside0.mk (Kd.R_lower (Kd.R_new' ho0 (Kd.R_lt (by (with_reducible repeat (first | apply Kd.R_alloc | apply Kd.R_drewN | apply Kd.R_drew)); exact HO_3.out))) (below_size (by repeat (first | (with_reducible first | exact HB.out | apply below_alloc | apply pw_below_drewN | apply below_drew1) | exact HB.out)))); have n2_ := Aside0.mk (below_step (by repeat (first | (with_reducible first | exact HB.out | apply below_alloc | apply pw_below_drewN | apply below_drew1) | exact HB.out)) hb); clear HO_3; clear HB; have HO_3 := n0_; have HO125 := n1_; have HB := n2_; clear n0_ n1_ n2_; (try clear hb); (try clear hb2); (try clear hk); (try clear hi); (try clear ho0); obtain ⟨Ao10, co10, eo10⟩ := Kd.R_slice HO125.out; subst eo10) | ((with_reducible refine gate_builtin (b := .append) (xs := #[.tmp 12, .tmp 17]) rfl ?_); at_builtin; refine Kd.R_append_rows (Kd.int .u8) (w0 := w) w.heap.size rfl (.tmp 12) (.tmp 17) 37 5 (.int .u8 0) 1 rfl Tryd.underlying37 info5 rfl (by decide) (by omega) u3 x3_1 t123 _ _ _ (fun k_ => some k_ ≠ (.slice Ao10 t123.length co10 : Value).ownBlock) (fun _ => False) rfl rfl ?aO ?aR (fun _ _ h => h) (fun _ h => h.elim) ?aF ?aB ?aS ?aL ?_; (case aR => repeat (first | exact (Kd.R_reads' HO125.out).2.2 | (with_reducible refine Kd.C_alloc ?_ _) | (with_reducible refine Kd.C_drewN ?_ _) | (with_reducible refine Kd.C_drew ?_))); (case aB => exact (by repeat (first | (with_reducible first | exact HB.out | apply below_alloc | apply pw_below_drewN | apply below_drew1) | exact HB.out))); (case aF => exact (fun k_ hk => Kd.fresh' (Kd.R_lt (by (with_reducible repeat (first | apply Kd.R_alloc | apply Kd.R_drewN | apply Kd.R_drew)); exact HO125.out)) k_ hk)); (case aO => exact (by (with_reducible repeat (first | apply Kd.R_alloc | apply Kd.R_drewN | apply Kd.R_drew)); exact Kd.R_mono HO_3.out (fun _ hk => hk.2))); (case aS => exact (below_size (by repeat (first | (with_reducible first | exact HB.out | apply below_alloc | apply pw_below_drewN | apply below_drew1) | exact HB.out)))); (case aL => have := LMc7.out; omega); intro v127 w9 ho hb hg hat; rw [← Ny126.out] at ho; have n0_ := Aside0.mk (Kd.R_after (ok := (fun _ => True)) (by (with_reducible repeat (first | apply Kd.R_alloc | apply Kd.R_drewN | apply Kd.R_drew)); exact HO125.out) hg hat); have n1_ := Aside0.mk (hb); have n2_ := Aside0.mk (ho); clear HO125; clear HB; clear HO_3; have HO125 := n0_; have HB := n1_; have HO128 := n2_; clear n0_ n1_ n2_; clear ho hb hg hat))
            go_roundg k1
            case measure => have := HK1.out; omega
            case rel => exact ⟨(y126), (wrap64 (x4_1 + 1)), (by first | rfl | (simp; done) | (simp [*]; done)), H', ⟨by have := HK1.out; omega⟩, ⟨by (with_reducible repeat (first | apply Kd.R_alloc | apply Kd.R_drewN | apply Kd.R_drew)); exact Kd.R_mono HO128.out (fun _ hk => trivial)⟩, ⟨by repeat (first | (with_reducible first | exact HB.out | apply below_alloc | apply pw_below_drewN | apply below_drew1) | exact HB.out)⟩⟩
          · rw [if_neg c7] at H
            exact absurd H (by simp)
        · rw [if_neg c5] at H
          exact absurd H (by simp)
      · rw [if_neg c4] at H
        have c4b0 : decide (x4_1 < (l0.length : Int)) = false := decide_eq_false c4
        clear c4
        obtain rfl := Option.some.inj H
        have hcv11 := own_string (P := Tryd.prog) Tryd.underlying37 Tryd.underlying5 Tryd.underlying9 (Kd.own_of_R HO_3.out)
        go_wp2
        go_ret
        exact ⟨by first | rfl | (simp [errW_none, errW_some] <;> rfl) | (simp [*, errW_none, errW_some] <;> rfl), by repeat (first | (with_reducible first | exact HB.out | apply below_alloc | apply pw_below_drewN | apply below_drew1) | exact HB.out)⟩

end Go.Proofs.YtnmjocoopbfpnaaDoor.PEntityN
