import Derived.Test.YtfkgklbaafbbiaaPAOncex1
import Derived.Maps.Own
import Derived.Maps.Views
import Derived.StringKeys
import Derived.IntWalk
namespace Go.Proofs.Ytfkgklbaafbbiaa.OnceWalk
open Go.RowKit Go.Proofs.Ytfkgklbaafbbiaa.PAOnce Go.Proofs.YtfkgklbaafbbiaaW.PrintWords Go.Proofs.YtfkgklbaafbbiaaW.PrintLast Go.Proofs.YtfkgklbaafbbiaaW.PrintMore
attribute [local go_sem] max2_int min2_int max_two min_two max_three min_three max_four min_four
set_option linter.unusedVariables false

/-- An attribute more, unless its name is there. -/
def add (l : List S37) (x : S38) : List S37 := if (l.find? (attr_find.named x.f0)).isSome = true then l else l ++ [⟨x.f0, x.f1⟩]
theorem add_len (l : List S37) (x : S38) : (add l x).length ≤ l.length + 1 := by
  unfold add
  split
  · omega
  · rw [List.length_append]
    exact Nat.le_refl _
def up (a : List S38) : Nat → List S37
  | 0 => []
  | i + 1 => add (up a i) (rd_T38 a (i : Int))
def dn (a : List S38) : Nat → List S37
  | 0 => []
  | i + 1 => add (dn a i) (rd_T38 a ((a.length - 1 - i : Nat) : Int))
theorem up_len (a : List S38) : ∀ i, (up a i).length ≤ i
  | 0 => Nat.le_refl _
  | i + 1 => Nat.le_trans (add_len _ _) (Nat.succ_le_succ (up_len a i))
theorem dn_len (a : List S38) : ∀ i, (dn a i).length ≤ i
  | 0 => Nat.le_refl _
  | i + 1 => Nat.le_trans (add_len _ _) (Nat.succ_le_succ (dn_len a i))
theorem from_find (p : S37 → Bool) : ∀ (l : List S37) (i : Nat), (l.find? p = none ∧ attr_find.from p l i = -1) ∨ ∃ (j : Nat) (y : S37), l.find? p = some y ∧ attr_find.from p l i = ((i + j : Nat) : Int) ∧ l[j]? = some y
  | [], _ => .inl ⟨rfl, rfl⟩
  | y :: r, i => by
    rw [attr_find.from, List.find?_cons]
    cases h : p y with
    | true => exact .inr ⟨0, y, rfl, rfl, rfl⟩
    | false =>
      rcases from_find p r (i + 1) with ⟨h1, h2⟩ | ⟨j, z, h1, h2, h3⟩
      · exact .inl ⟨h1, by rw [if_neg (by decide)]; exact h2⟩
      · exact .inr ⟨j + 1, z, h1, by rw [if_neg (by decide), h2]; congr 1; omega, h3⟩
theorem add_eq (l : List S37) (hl : l.length < 1000) (x : S38) : attr_Add.f l x.f0 x.f1 = some (add l x) := by
  unfold attr_Add.f attr_find.f api_Attr.f add
  have hL : l.length < 4398046511104 := by omega
  simp only [if_pos hL, Option.bind_some]
  rcases from_find (attr_find.named x.f0) l 0 with ⟨h1, h2⟩ | ⟨j, y, h1, h2, h3⟩
  · rw [h1, h2, if_pos (by decide)]
    rfl
  · rw [h1, h2, if_neg (by omega)]
    rfl
/-- The map behind so many names. -/
def D (l : List S37) : Nat → DataW Unit
  | 0 => .map []
  | j + 1 => (D l j).put (.string (rd_T37 l (j : Int)).f0.data.toList) (.lit (.bool true))
theorem D_map (l : List S37) : ∀ j : Nat, Go.Maps.IsMap (D l j)
  | 0 => ⟨[], rfl⟩
  | j + 1 => by
    obtain ⟨es, he⟩ := D_map l j
    show Go.Maps.IsMap ((D l j).put _ _)
    rw [he]
    exact ⟨_, rfl⟩
theorem bytes_ne {a b : ByteArray} (h : a ≠ b) : a.data.toList ≠ b.data.toList := fun q => h (by
  cases a; cases b
  congr 1
  exact Array.toList_inj.1 q)
theorem seen_no (l : List S37) (s : ByteArray) : ∀ j : Nat, (∀ i : Nat, i < j → (rd_T37 l (i : Int)).f0 ≠ s) → (D l j).atKey (.string s.data.toList) (.lit (.bool false)) = .lit (.bool false)
  | 0, _ => rfl
  | j + 1, h => by
    show ((D l j).put _ _).atKey _ _ = _
    rw [Go.Maps.atKey_put_other (fun q => by
      injection q with q
      exact bytes_ne (h j (by omega)) q.symm)]
    exact seen_no l s j fun i hi => h i (by omega)
theorem seen_yes (l : List S37) (s : ByteArray) : ∀ j : Nat, (∃ i : Nat, i < j ∧ (rd_T37 l (i : Int)).f0 = s) → (D l j).atKey (.string s.data.toList) (.lit (.bool false)) = .lit (.bool true)
  | 0, h => by obtain ⟨i, hi, _⟩ := h; omega
  | j + 1, h => by
    show ((D l j).put _ _).atKey _ _ = _
    by_cases e : (rd_T37 l (j : Int)).f0 = s
    · rw [e]
      exact Go.Maps.atKey_put_same (D_map l j) (show Go.WideAt.IsKeyLit (.string _) from trivial) _ _
    · rw [Go.Maps.atKey_put_other (fun q => by
        injection q with q
        exact bytes_ne e q.symm)]
      obtain ⟨i, hi, hs⟩ := h
      refine seen_yes l s j ⟨i, ?_, hs⟩
      by_cases q : i = j
      · subst q; exact absurd hs e
      · omega
theorem bool_inv {v : Value} {b : Bool} {ps : List MemPlace} (h : plainElem (H := Unit) Try.prog 4 v = some (.lit (.bool b), ps)) : v = .bool b := by
  unfold plainElem at h
  rw [Try.underlying4] at h
  cases v <;> simp at h
  rw [h.1]
theorem look {W : World} {g n : Nat} {E : DataW Unit} (h : W.ownsMap Try.prog 9 (plainElem Try.prog 4) g n E) (s : ByteArray) (hs : s.size ≤ maxLen) (b : Bool) (hb : E.atKey (.string s.data.toList) (.lit (.bool false)) = .lit (.bool b)) : (Instr.lookup 39 (.map (some g)) (.string s) false).run Try.prog W = .ok (.bool b) W := by
  obtain ⟨v, ps, hrun, hv⟩ := h.lookup (Go.Maps.string_keyed Try.underlying9) Try.underlying39 (by exact Try.zeroValue4 W) (plainElem_bool Try.underlying4 false) (Go.WideMaps.keyOf_string_mk Try.underlying9 hs)
  rw [hb] at hv
  rw [hrun, bool_inv hv]
theorem hold_ {p : Prop} (h : id p) : p := h
/-- A row of attributes that can be read. -/
def Row (W : World) (v : Value) (l : List S37) : Prop := ∃ A c, v = .slice A l.length c ∧ Kd.C k37 W A l.length l ∧ l.length ≤ c
theorem Row.nil (W : World) : Row W (.slice none 0 0) [] := by
  obtain ⟨-, hc, hC⟩ := Kd.R_reads' (Kd.R_nil k37 37 W 0 (fun _ => True))
  exact ⟨none, 0, rfl, hC, Nat.le_refl _⟩
theorem Row.of {W : World} {v : Value} {l : List S37} {b : Nat} {ok : Nat → Prop} (h : Kd.R k37 37 W b ok v l) : Row W v l := by
  obtain ⟨A, c, rfl⟩ := Kd.R_slice h
  obtain ⟨-, hc, hC⟩ := Kd.R_reads' h
  exact ⟨A, c, rfl, hC, hc⟩
theorem Row.below {W W1 : World} {v : Value} {l : List S37} (h : Row W v l) (hb : Below W.heap.size W W1) : Row W1 v l := by
  obtain ⟨A, c, hv, hC, hc⟩ := h
  exact ⟨A, c, hv, Kd.C_below hC hb, hc⟩
theorem call_add (W : World) (v : Value) (l : List S37) (x : S38) (hl : l.length < 1000) (h : Row W v l) : Calls Try.prog 14 #[v, .agg #[.string x.f0, .string x.f1]] W fun e w' => ∃ u : Value, e = .returned u ∧ Row w' u (add l x) ∧ Below W.heap.size W w' := by
  obtain ⟨A, c, rfl, hC, hc⟩ := h
  refine (attr_Add.calls A c l x.f0 x.f1 (add l x) W hC hc (add_eq l hl x)).mono ?_
  rintro e w' ⟨u, rfl, hr, hb⟩
  exact ⟨u, rfl, Row.of hr, hb⟩
set_option maxRecDepth 100000 in
set_option maxHeartbeats 16000000 in
theorem walk (A0 : Option Addr) (c0 : Nat) (a : List S38) (w : World) (hr0 : Kd.C k38 w A0 a.length a) (hc0 : a.length ≤ c0) (h30 : a.length ≤ 30) (K : Nat)
    (F1 : ∀ j : Nat, j < (up a a.length).length → ∃ v, decanterref06_Get.f K a (rd_T37 (up a a.length) (j : Int)).f0 = some (v, true) ∧ v.toList = (rd_T37 (up a a.length) (j : Int)).f1.toList)
    (F2 : ∀ i j : Nat, i < j → j < (up a a.length).length → (rd_T37 (up a a.length) (i : Int)).f0 ≠ (rd_T37 (up a a.length) (j : Int)).f0)
    (F3 : ∀ i : Nat, i < a.length → ∃ j : Nat, j < (up a a.length).length ∧ (rd_T37 (up a a.length) (j : Int)).f0 = (rd_T38 a (i : Int)).f0)
    (F4 : (up a a.length).length = (dn a a.length).length) (F5 : attr_Same.f (up a a.length) (up a a.length) = some true)
    (F6 : (up a a.length).length ≠ a.length ∨ attr_Same.f (up a a.length) (dn a a.length) = some true)
    (F7 : ∀ i : Nat, i < a.length → (rd_T38 a (i : Int)).f0.size ≤ maxLen) (F8 : ∀ j : Nat, j < (up a a.length).length → (rd_T37 (up a a.length) (j : Int)).f0.size ≤ maxLen) :
    Calls Try.prog 5 #[.slice A0 a.length c0] w fun e w' => e = .returned (.bool true) ∧ Below w.heap.size w w' := by
  have HS := Lib.hid (fun (w : World) => decanterlaw06_speaks.calls true w (by decide +kernel))
  have HR := Lib.hid hr0
  have HC := Lib.hid hc0
  have HF1 := Lib.hid F1
  have HF2 := Lib.hid F2
  have HF3 := Lib.hid F3
  have HF4 := Lib.hid F4
  have HF5 := Lib.hid F5
  have HF6 := Lib.hid F6
  have HF7 := Lib.hid F7
  have HF8 := Lib.hid F8
  clear hr0 hc0 F1 F2 F3 F4 F5 F6 F7 F8
  go_enter Try.func5, Try.ntmps5
  go_wp2_with (go_at_call 13; refine (HS.out _).mono ?_; rintro e w1 ⟨rfl, hb1⟩; have HB1 := Lib.hid hb1; clear hb1)
  go_loopg [3, 4, 23] (a.length + 1) (fun gg s3 s4 s23 wr => ∃ i : Nat, s23 = .int .i64 (i : Int) ∧ i ≤ a.length ∧ i + gg = a.length + 1 ∧ Hid (Row wr s3 (up a i)) ∧ Hid (Row wr s4 (dn a i)) ∧ Hid (Below w.heap.size w wr))
  case atStart => exact ⟨0, rfl, Nat.zero_le _, by omega, Lib.hid (Row.nil _), Lib.hid (Row.nil _), HB1⟩
  case round =>
    obtain ⟨i, rfl, hi, hgk, HU, HD, HB⟩ := hrel
    by_cases hlt : i < a.length
    · obtain ⟨ad, hA, hx0, hx1⟩ := at_T38 HR.out (i : Int) (by omega) (by omega)
      cases hA
      obtain ⟨ad2, hA2, hy0, hy1⟩ := at_T38 HR.out ((a.length - 1 - i : Nat) : Int) (by omega) (by omega)
      cases hA2
      rw [Int.toNat_natCast] at hy0 hy1
      replace hx0 := (HB.out.cell (World.block_lt_of_cell? w _ hx0)).trans hx0
      replace hx1 := (HB.out.cell (World.block_lt_of_cell? w _ hx1)).trans hx1
      have hux := up_len a i
      have hdx := dn_len a i
      have HY0 := Lib.hid (fun (W : World) (hb : Below w.heap.size w W) => (hb.cell (World.block_lt_of_cell? w _ hy0)).trans hy0)
      have HY1 := Lib.hid (fun (W : World) (hb : Below w.heap.size w W) => (hb.cell (World.block_lt_of_cell? w _ hy1)).trans hy1)
      clear hy0 hy1
      have HCa := Lib.hid (call_add wr _ (up a i) (rd_T38 a (i : Int)) (by omega) HU.out)
      rw [Int.toNat_natCast] at hx0 hx1
      go_wp2_with (go_at_call 14; first | (refine HCb.out.mono ?_; rintro e w3 ⟨u3, rfl, hrow3, hb3⟩; have HD3 := Lib.hid hrow3; have HB3 := Lib.hid (HB2.out.trans (hb3.mono HB2.out.size)); have HU3 := Lib.hid (HU2.out.below hb3); clear hb3 hrow3 HCb) | (refine HCa.out.mono ?_; rintro e w2 ⟨u2, rfl, hrow2, hb2⟩; have HU2 := Lib.hid hrow2; have HB2 := Lib.hid (HB.out.trans (hb2.mono HB.out.size)); have HD2 := Lib.hid (HD.out.below hb2); have hz0 := HY0.out _ HB2.out; have hz1 := HY1.out _ HB2.out; clear hb2 hrow2 HCa HY0 HY1; have HCb := Lib.hid (call_add w2 _ (dn a i) (rd_T38 a ((a.length - 1 - i : Nat) : Int)) (by omega) HD2.out)))
      go_roundg (gk - 1)
      case measure => omega
      case rel => exact ⟨i + 1, rfl, by omega, by omega, HU3, HD3, HB3⟩
    · obtain rfl : i = a.length := by omega
      obtain ⟨L, hL⟩ : ∃ L, up a a.length = L := ⟨_, rfl⟩
      obtain ⟨T, hT⟩ : ∃ T, dn a a.length = T := ⟨_, rfl⟩
      rw [hL] at HU HF1 HF2 HF3 HF4 HF5 HF6 HF8
      rw [hT] at HD HF4 HF6
      have hLlen : L.length ≤ 30 := by rw [← hL]; exact Nat.le_trans (up_len a _) h30
      obtain ⟨AL, cL, rfl, hLC, hLc⟩ := HU.out
      obtain ⟨AT, cT, rfl, hTC, hTc⟩ := HD.out
      have HLC := Lib.hid hLC
      have HLc := Lib.hid hLc
      have HTC := Lib.hid hTC
      have HTc := Lib.hid hTc
      clear hLC hLc hTC hTc HU HD hL hT
      have hmm := @run_makeMap Try.prog
      obtain ⟨W1, rfl⟩ : ∃ W1, W1 = wr := ⟨_, rfl⟩
      clear hgk hi hlt
      go_wp2
      go_loopg [46] (L.length + 1) (fun gg s46 wx => ∃ j : Nat, s46 = .int .i64 (j : Int) ∧ j ≤ L.length ∧ j + gg = L.length + 1 ∧ Hid (wx.ownsMap Try.prog 9 (plainElem Try.prog 4) W1.heap.size j (D L j)) ∧ Hid (Below W1.heap.size W1 wx))
      case atStart => exact ⟨0, rfl, Nat.zero_le _, by omega, Lib.hid (World.ownsMap_made _ _ _ _), Lib.hid ((Below.refl _ _).alloc (Nat.le_refl _) _)⟩
      case round =>
        obtain ⟨j, rfl, hj, hjk, HM, HX⟩ := hrel
        by_cases hjl : j < L.length
        · obtain ⟨ad, hA, hx0, hx1⟩ := at_T37 HLC.out (j : Int) (by omega) (by omega)
          cases hA
          rw [Int.toNat_natCast] at hx0 hx1
          replace hx0 := (HX.out.cell (World.block_lt_of_cell? W1 _ hx0)).trans hx0
          replace hx1 := (HX.out.cell (World.block_lt_of_cell? W1 _ hx1)).trans hx1
          obtain ⟨v, hget, hv⟩ := HF1.out j hjl
          have h8 := HF8.out j hjl
          have hat := seen_no L (rd_T37 L (j : Int)).f0 j (fun i hi => HF2.out i j hi hjl)
          obtain ⟨y, hy⟩ : ∃ y, rd_T37 L (j : Int) = y := ⟨_, rfl⟩
          have hDs : D L (j + 1) = (D L j).put (.string y.f0.data.toList) (.lit (.bool true)) := by rw [← hy]; rfl
          rw [hy] at hx0 hx1 hget hv h8 hat
          have hv1 : (v.toList == y.f1.toList) = true := beq_iff_eq.2 hv
          have hv2 : (v.toList != y.f1.toList) = false := by rw [hv]; simp
          clear hv
          have HDs := Lib.hid hDs
          have HG := Lib.hid hget
          have HAT := Lib.hid hat
          clear hy hDs hget hat
          have HA2 := Lib.hid (HX.out.alloc HX.out.size (.cells #[.string y.f0, .string y.f1] 37))
          have HMn : ∀ n, ((wr.alloc (.cells #[.string y.f0, .string y.f1] 37)).drewN n).ownsMap Try.prog 9 (plainElem Try.prog 4) W1.heap.size j (D L j) := fun n => HM.out.alloc (.cells #[.string y.f0, .string y.f1] 37)
          have hlk : ∀ n, (Instr.lookup 39 (.map (some W1.heap.size)) (.string y.f0) false).run Try.prog ((wr.alloc (.cells #[.string y.f0, .string y.f1] 37)).drewN n) = .ok (.bool false) ((wr.alloc (.cells #[.string y.f0, .string y.f1] 37)).drewN n) := fun n => look (HMn n) y.f0 h8 false HAT.out
          have hkey := Go.WideMaps.keyOf_string_mk Try.underlying9 h8
          have HKEY := Lib.hid hkey
          have HMM := Lib.hid HMn
          have HBx := Lib.hid (HB.out.trans (HA2.out.mono HB.out.size))
          clear hkey HMn h8
          go_wp2_with (first | (go_at_call 15; refine (decanterref06_Get.calls K A0 c0 a y.f0 v true _ (Kd.C_below HR.out HBx.out) HC.out HG.out).mono ?_; rintro e w2 ⟨rfl, ⟨nd, rfl⟩⟩) | (at_mapUpdate; refine wpList_mapUpdate_own _ rfl _ _ _ 39 rfl 9 4 (Go.Maps.string_keyed Try.underlying9) Try.underlying39 _ W1.heap.size j (D L j) rfl (HMM.out _) (by unfold maxLen; omega) _ _ _ rfl rfl HKEY.out _ [] (plainElem_bool Try.underlying4 true) ?_; intro w3 hown3 hgrow3; have HM3 := Lib.hid hown3; have HG3 := Lib.hid hgrow3; clear hown3 hgrow3))
          go_roundg (gk - 1)
          case measure => omega
          case rel => exact ⟨j + 1, rfl, by omega, by omega, Lib.hid (by rw [HDs.out]; exact HM3.out), Lib.hid ((pw_below_drewN HA2.out nd).grown HG3.out (pw_below_drewN HA2.out nd).size (fun k hk => by cases hk; exact Nat.le_refl _))⟩
        · obtain rfl : j = L.length := by omega
          obtain ⟨W2, rfl⟩ : ∃ W2, W2 = wr := ⟨_, rfl⟩
          clear hjk hj hjl
          go_wp2
          go_loopg [77] (a.length + 1) (fun gg s77 wx => ∃ i : Nat, s77 = .int .i64 (i : Int) ∧ i ≤ a.length ∧ i + gg = a.length + 1 ∧ Hid (wx.ownsMap Try.prog 9 (plainElem Try.prog 4) W1.heap.size L.length (D L L.length)) ∧ Hid (Below W1.heap.size W1 wx))
          case atStart => exact ⟨0, rfl, Nat.zero_le _, by omega, HM, HX⟩
          case round =>
            clear HM HX
            obtain ⟨i, rfl, hi, hik, HM, HX⟩ := hrel
            by_cases hil : i < a.length
            · obtain ⟨ad, hA, hx0, hx1⟩ := at_T38 HR.out (i : Int) (by omega) (by omega)
              cases hA
              rw [Int.toNat_natCast] at hx0 hx1
              have HBX := Lib.hid (HB.out.trans (HX.out.mono HB.out.size))
              replace hx0 := (HBX.out.cell (World.block_lt_of_cell? w _ hx0)).trans hx0
              replace hx1 := (HBX.out.cell (World.block_lt_of_cell? w _ hx1)).trans hx1
              have h7 := HF7.out i hil
              obtain ⟨j, hjl, hjx⟩ := HF3.out i hil
              have hat := seen_yes L (rd_T38 a (i : Int)).f0 L.length ⟨j, hjl, hjx⟩
              obtain ⟨y, hy⟩ : ∃ y, rd_T38 a (i : Int) = y := ⟨_, rfl⟩
              rw [hy] at hx0 hx1 h7 hat
              clear hy hjx hjl
              have HA2 := Lib.hid (HX.out.alloc HX.out.size (.cells #[.string y.f0, .string y.f1] 38))
              have hMn : (wr.alloc (.cells #[.string y.f0, .string y.f1] 38)).ownsMap Try.prog 9 (plainElem Try.prog 4) W1.heap.size L.length (D L L.length) := HM.out.alloc (.cells #[.string y.f0, .string y.f1] 38)
              have hlk := look hMn y.f0 h7 true hat
              have HMM := Lib.hid hMn
              clear hMn h7 hat
              go_wp2
              go_roundg (gk - 1)
              case measure => omega
              case rel => exact ⟨i + 1, rfl, by omega, by omega, HMM, HA2⟩
            · obtain rfl : i = a.length := by omega
              have HBX := Lib.hid (HB.out.trans (HX.out.mono HB.out.size))
              have h4 := HF4.out
              have e4 : ((L.length : Int) == (T.length : Int)) = true := by rw [h4]; simp
              have HSL := Lib.hid (attr_Same.calls AL cL L AL cL L true wr (Kd.C_below HLC.out HX.out) HLc.out (Kd.C_below HLC.out HX.out) HLc.out HF5.out)
              clear h4
              by_cases hla : L.length = a.length
              · have h6 := HF6.out.resolve_left (fun q => q hla)
                have HST := Lib.hid (fun (W : World) (hb : Below W1.heap.size W1 W) => attr_Same.calls AL cL L AT cT T true W (Kd.C_below HLC.out hb) HLc.out (Kd.C_below HTC.out hb) HTc.out h6)
                have e5 : ((L.length : Int) == (a.length : Int)) = true := by rw [hla]; simp
                have e6 : ((L.length : Int) != (a.length : Int)) = false := by rw [hla]; simp
                clear h6 hla
                go_wp2_with (go_at_call 16; first | (refine (HST.out _ HX3.out).mono ?_; rintro e w4 ⟨rfl, hb4⟩; have HX4 := Lib.hid (HX3.out.trans (hb4.mono HX3.out.size)); clear hb4) | (refine HSL.out.mono ?_; rintro e w3 ⟨rfl, hb3⟩; have HX3 := Lib.hid (HX.out.trans (hb3.mono HX.out.size)); clear hb3 HSL))
                go_ret
                exact ⟨by first | rfl | simp, HB.out.trans (HX4.out.mono HB.out.size)⟩
              · have e5 : ((L.length : Int) == (a.length : Int)) = false := beq_eq_false_iff_ne.2 (by omega)
                have e6 : ((L.length : Int) != (a.length : Int)) = true := bne_iff_ne.2 (by omega)
                go_wp2_with (go_at_call 16; refine HSL.out.mono ?_; rintro e w3 ⟨rfl, hb3⟩; have HX3 := Lib.hid (HX.out.trans (hb3.mono HX.out.size)); clear hb3)
                go_ret
                exact ⟨by first | rfl | simp, HB.out.trans (HX3.out.mono HB.out.size)⟩
end Go.Proofs.Ytfkgklbaafbbiaa.OnceWalk
