/-
  AttrKeeps: attr.Keep, and the law's walk.
-/
import Derived.Test.YtfkgklbaafbbiaaKeepFunc
namespace Go.Proofs.Ytfkgklbaafbbiaa.Keep
open Go.RowKit Go.Shelf Go.Proofs.Ytfkgklbaafbbiaa.PAKeep Go.Proofs.YtfkgklbaafbbiaaW.PrintWords Go.Proofs.YtfkgklbaafbbiaaW.PrintLast Go.Proofs.YtfkgklbaafbbiaaW.PrintMore
set_option linter.unusedVariables false
variable {Wk W0 : World} {ab mb fb : Nat} {Am : Option Addr} {cm : Nat} {ms : List Bool}
theorem C_bools {w : World} {A : Option Addr} {l : List Bool} (h : Kd.C Kd.bool w A l.length l) : ReadsOf Value.bool false w A l.length l := by
  refine ⟨rfl, h.2.1, fun hn => ?_⟩
  obtain ⟨ad, rfl, hcs⟩ := h.2.2 hn
  refine ⟨ad, rfl, fun j hj => ?_⟩
  obtain ⟨cs, _, hc2, hc3⟩ := hcs j l[j] (List.getElem?_eq_getElem hj)
  obtain rfl : cs = [.bool l[j]] := hc2
  have := hc3 0 _ rfl
  rw [show j * Kd.bool.sz + 0 = j by show j * 1 + 0 = j; omega] at this
  rw [this, List.getD_eq_getElem?_getD, List.getElem?_eq_getElem hj, Option.getD_some]
set_option maxRecDepth 100000 in
set_option maxHeartbeats 2000000 in
theorem keep_calls (E : Env Wk W0 ab mb Am cm ms) (h0 : Wk.heap[ab]? = some (.cells #[.slice none 0 0] 33 (0, 0))) {A : Option Addr} {c : Nat} {X : List S37} (hC : Kd.C k37 Wk A X.length X) (hc : X.length ≤ c) (hX : X.length ≤ 900) :
    Calls Try.prog 19 #[.slice A X.length c, .func (.func 20) #[] #[.pointer (some ⟨ab, 0, none⟩), .pointer (some ⟨mb, 0, none⟩)]] Wk fun e w' => Done Wk ab ms X e w' := by
  have BA := Lib.hid ((Below.refl Wk.heap.size Wk).alloc (Nat.le_refl _) (.cells #[askF ab mb] 49))
  have HC := Lib.hid (api_Attr.calls A c X X _ (Kd.C_below hC BA.out) hc (by unfold api_Attr.f; rw [if_pos (by omega)]))
  have HE := Lib.hid E
  have HX := Lib.hid hX
  have H0 := Lib.hid h0
  clear E h0 hC hX
  unfold askF at BA HC
  go_enter Try.func19, Try.ntmps19
  go_wp2_with (first
    | (go_at_call 23; go_loud (refine HC.out.mono ?_; rintro e w1 ⟨v1, rfl, hr1, hb1⟩; obtain ⟨A1, c1, rfl⟩ := Kd.R_slice hr1; have J1 := Lib.hid (show JJ Wk ab Wk.heap.size (askF ab mb) (.slice A1 X.length c1) [] X w1 from ⟨(Fr.refl ab Wk).below (BA.out.trans (hb1.mono BA.out.size)), ⟨.slice none 0 0, blk_below (blk_alloc H0.out _) hb1, Kd.R_nil _ _ _ _ _⟩, blk_below (blk_new Wk _) hb1, only37 (Kd.R_lower hr1 BA.out.size)⟩); clear hr1 hb1))
    | (go_at_call 26; refine (delete_calls HE.out J1.out HX.out).mono ?_; rintro e w2 ⟨A2, c2, rfl, hd⟩; have HD := Lib.hid hd; clear hd))
  go_ret
  exact ⟨A2, c2, rfl, HD.out⟩
def to37 (x : S38) : S37 := ⟨x.f0, x.f1⟩
/-- Those that may be, of the first ones. -/
def wantA (ms : List Bool) (a : List S38) : Nat → List S38
  | 0 => []
  | i + 1 => if kb ms i = true then wantA ms a i ++ [a.getD i z38] else wantA ms a i
theorem wantA_le (ms : List Bool) (a : List S38) : ∀ i, (wantA ms a i).length ≤ i
  | 0 => Nat.le_refl _
  | i + 1 => by
    have := wantA_le ms a i
    rw [wantA]
    split
    · rw [List.length_append, List.length_singleton]; omega
    · omega
theorem kept_want (ms : List Bool) (a : List S38) : ∀ i, i ≤ a.length → (kept ms (a.map to37) i).map to38 = wantA ms a i
  | 0, _ => rfl
  | i + 1, h => by
    have ih := kept_want ms a i (by omega)
    have hx : a[i]? = some a[i] := List.getElem?_eq_getElem (by omega)
    rw [kept, wantA]
    split
    · rw [List.map_append, ih, List.getD_eq_getElem?_getD, List.getD_eq_getElem?_getD, List.getElem?_map, hx]
      rfl
    · exact ih
theorem back_map (a : List S38) : (a.map to37).map to38 = a := by
  rw [List.map_map]
  exact (List.map_congr_left fun x _ => rfl).trans (List.map_id a)
theorem rd37 {l : List S37} {i : Nat} {x : S37} (h : l[i]? = some x) : rd_T37 l (i : Int) = x := by
  unfold rd_T37
  rw [Int.toNat_natCast, List.getD_eq_getElem?_getD, h, Option.getD_some]
theorem rd38 {l : List S38} {i : Nat} {x : S38} (h : l[i]? = some x) : rd_T38 l (i : Int) = x := by
  unfold rd_T38
  rw [Int.toNat_natCast, List.getD_eq_getElem?_getD, h, Option.getD_some]
theorem w1 (i : Nat) (h : i ≤ 1000000) : wrap64 ((i : Int) + 1) = ((i + 1 : Nat) : Int) := by rw [IntWalk.wrap64_in _ (by omega)]; rfl
theorem of_eq (l : List S38) (hl : l.length ≤ 1000) (k : Nat) (hk : l.length + 1 ≤ k) : decanterlaw06_Of.f k l = some (l.map to37) := by
  unfold decanterlaw06_Of.f
  have loop : ∀ n i q : Nat, i + n = l.length → n + 1 ≤ q → decanterlaw06_Of.l0 q ((l.take i).map to37) l (l.length : Int) (i : Int) = some (l.map to37) := by
    intro n
    induction n with
    | zero =>
      intro i q hi hq
      obtain ⟨q, rfl⟩ : ∃ q', q = q' + 1 := ⟨q - 1, by omega⟩
      rw [decanterlaw06_Of.l0, if_neg (by omega), List.take_of_length_le (by omega)]
    | succ n ihn =>
      intro i q hi hq
      obtain ⟨q, rfl⟩ : ∃ q', q = q' + 1 := ⟨q - 1, by omega⟩
      have hx : l[i]? = some l[i] := List.getElem?_eq_getElem (by omega)
      rw [decanterlaw06_Of.l0, if_pos (by omega), if_pos (by omega), if_pos (by omega), if_pos (by rw [List.length_map, List.length_take]; omega), rd38 hx, w1 i (by omega)]
      have e := take_snoc to37 l i l[i] hx
      have e2 : (⟨l[i].f0, l[i].f1⟩ : S37) = to37 l[i] := rfl
      rw [e2, e]
      exact ihn (i + 1) q (by omega) (by omega)
  exact loop l.length 0 k (by omega) (by omega)
theorem to_eq (l : List S37) (hl : l.length ≤ 1000) (k : Nat) (hk : l.length + 1 ≤ k) : decanterlaw06_To.f k l = some (l.map to38) := by
  unfold decanterlaw06_To.f
  have loop : ∀ n i q : Nat, i + n = l.length → n + 1 ≤ q → decanterlaw06_To.l0 q ((l.take i).map to38) l (l.length : Int) (i : Int) = some (l.map to38) := by
    intro n
    induction n with
    | zero =>
      intro i q hi hq
      obtain ⟨q, rfl⟩ : ∃ q', q = q' + 1 := ⟨q - 1, by omega⟩
      rw [decanterlaw06_To.l0, if_neg (by omega), List.take_of_length_le (by omega)]
    | succ n ihn =>
      intro i q hi hq
      obtain ⟨q, rfl⟩ : ∃ q', q = q' + 1 := ⟨q - 1, by omega⟩
      have hx : l[i]? = some l[i] := List.getElem?_eq_getElem (by omega)
      rw [decanterlaw06_To.l0, if_pos (by omega), if_pos (by omega), if_pos (by omega), if_pos (by rw [List.length_map, List.length_take]; omega), rd37 hx, w1 i (by omega)]
      have e := take_snoc to38 l i l[i] hx
      have e2 : (⟨l[i].f0, l[i].f1⟩ : S38) = to38 l[i] := rfl
      rw [e2, e]
      exact ihn (i + 1) q (by omega) (by omega)
  exact loop l.length 0 k (by omega) (by omega)
theorem alike_eq (l : List S38) (hl : l.length ≤ 1000) (k : Nat) (hk : l.length + 1 ≤ k) : decanterref06_Alike.f k l l = some true := by
  unfold decanterref06_Alike.f
  rw [if_pos rfl]
  have loop : ∀ n i q : Nat, i + n = l.length → n + 1 ≤ q → decanterref06_Alike.l0 q l l (i : Int) = some true := by
    intro n
    induction n with
    | zero =>
      intro i q hi hq
      obtain ⟨q, rfl⟩ : ∃ q', q = q' + 1 := ⟨q - 1, by omega⟩
      rw [decanterref06_Alike.l0, if_neg (by omega)]
    | succ n ihn =>
      intro i q hi hq
      obtain ⟨q, rfl⟩ : ∃ q', q = q' + 1 := ⟨q - 1, by omega⟩
      rw [decanterref06_Alike.l0, if_pos (by omega), if_pos (by omega), if_pos (by omega), w1 i (by omega), ihn (i + 1) q (by omega) (by omega)]
      simp
  exact loop l.length 0 k (by omega) (by omega)
theorem el38 {A : Option Addr} {X : List S38} {W : World} (h : Kd.C k38 W A X.length X) (i : Nat) (hi : i < X.length) :
    ∃ ad x, A = some ad ∧ X[i]? = some x ∧ W.cell? (ad.add (i * 2)) = some (.string x.f0) ∧ W.cell? ⟨(ad.add (i * 2)).block, (ad.add (i * 2)).off + 1, none⟩ = some (.string x.f1) := by
  obtain ⟨ad, hA, h0, h1⟩ := at_T38 h (i : Int) (by omega) (by omega)
  rw [Int.toNat_natCast] at h0 h1
  have hx : X[i]? = some X[i] := List.getElem?_eq_getElem hi
  have hr := rd38 hx
  rw [hr] at h0 h1
  exact ⟨ad, X[i], hA, hx, h0, h1⟩
set_option maxRecDepth 100000 in
set_option maxHeartbeats 8000000 in
theorem keeps_calls (A0 : Option Addr) (c0 : Nat) (l0 : List S38) (Am : Option Addr) (cm : Nat) (ms : List Bool) (w : World) (hr0 : Kd.C k38 w A0 l0.length l0) (hc0 : l0.length ≤ c0) (hr1 : Kd.C Kd.bool w Am ms.length ms) :
    Calls Try.prog 7 #[.slice A0 l0.length c0, .slice Am ms.length cm] w fun e w' => e = .returned (.bool true) ∧ Below w.heap.size w w' := by
  have R0 := Lib.hid hr0
  have RM := Lib.hid (C_bools hr1)
  have CS := Lib.hid (fun W => decanterlaw06_speaks.calls true W (by decide +kernel))
  have BB := Lib.hid ((Below.refl w.heap.size w).alloc (Nat.le_refl _) (.cells #[.slice Am ms.length cm] 47))
  have MB := Lib.hid (blk_new w (.cells #[.slice Am ms.length cm] 47))
  clear hr0 hr1
  by_cases hl : l0.length ≤ 30
  · have g1 : ¬ (30 : Int) < (l0.length : Int) := by omega
    have g2 : decide ((30 : Int) < (l0.length : Int)) = false := decide_eq_false g1
    go_enter Try.func7, Try.ntmps7
    go_upto_region 4 with (go_at_call 13; refine (CS.out _).mono ?_; rintro e w1 ⟨rfl, hb1⟩; have B1 := Lib.hid hb1; clear hb1)
    have BW1 := Lib.hid (BB.out.trans (B1.out.mono BB.out.size))
    have M1 := Lib.hid (blk_below MB.out B1.out)
    have z1 := Lib.hid (blk_lt' M1.out)
    have ML := Lib.hid (blk_alloc M1.out (.cells #[.slice none 0 0] 33))
    have AL := Lib.hid (blk_new w1 (.cells #[.slice none 0 0] 33))
    have BL := Lib.hid (BW1.out.alloc BW1.out.size (.cells #[.slice none 0 0] 33))
    generalize hwl : w1.alloc (.cells #[.slice none 0 0] 33) = wL at *
    clear hwl B1 MB BB
    go_wp2_with fail
    go_loopg [5, 7, 8, 21] (l0.length + 1) (fun gg s5 s7 s8 s21 wr => ∃ i : Nat, s21 = .int .i64 (i : Int) ∧ i ≤ l0.length ∧ i + gg = l0.length + 1 ∧ Hid (Kd.R k38 38 wr wL.heap.size (fun _ => True) s5 (wantA ms l0 i)) ∧ Hid (Below wL.heap.size wL wr))
    case atStart => exact ⟨0, rfl, Nat.zero_le _, by omega, Lib.hid (Kd.R_nil _ _ _ _ _), Lib.hid (Below.refl _ _)⟩
    case round =>
      obtain ⟨i, rfl, hi, hgk, HR, HB⟩ := hrel
      have BR := Lib.hid (BL.out.trans (HB.out.mono BL.out.size))
      have MR := Lib.hid (blk_below ML.out HB.out)
      by_cases hlt : i < l0.length
      · obtain ⟨ad, x, rfl, hx, E0, E1⟩ := el38 (Kd.C_below R0.out BR.out) i hlt
        obtain ⟨x0, x1⟩ := x
        simp only at E0 E1
        have i1 : (i : Int) < (l0.length : Int) := by omega
        have i0 : (0 : Int) ≤ (i : Int) := by omega
        have hgd : l0.getD i z38 = ⟨x0, x1⟩ := by rw [List.getD_eq_getElem?_getD, hx, Option.getD_some]
        have HG := Lib.hid hgd
        have BX := Lib.hid ((Below.refl wr.heap.size wr).alloc (Nat.le_refl _) (.cells #[.string x0, .string x1] 38))
        have c3 : (wr.alloc (.cells #[.string x0, .string x1] 38)).cell? ⟨w.heap.size, 0, none⟩ = some (.slice Am ms.length cm) := blk_cell (blk_alloc MR.out _) 0
        have RX := RM.out.below (BR.out.trans (BX.out.mono BR.out.size))
        have hwl := wantA_le ms l0 i
        clear hx hgd
        by_cases hm : i < ms.length
        · have m1 : (i : Int) < (ms.length : Int) := by omega
          obtain ⟨am, rfl, hcm⟩ := RX.2.2 (by omega)
          have c4 := hcm i hm
          have hkb : kb ms i = ms.getD i false := by unfold kb; rw [decide_eq_true hm, Bool.true_and]
          clear hcm RX
          cases hb : ms.getD i false with
          | true =>
            rw [hb] at c4 hkb
            have HU := Lib.hid (show wantA ms l0 (i + 1) = wantA ms l0 i ++ [⟨x0, x1⟩] by rw [wantA, if_pos hkb, HG.out])
            clear hb hkb
            go_wp2_with (refine Kd.R_append k38 (w0 := wL) (W := wr.alloc (.cells #[.string x0, .string x1] 38)) wL.heap.size rfl (.tmp 36) (.tmp 38) 33 38 (.agg #[.string ⟨#[]⟩, .string ⟨#[]⟩]) 32 rfl Try.underlying33 info38 rfl (by decide) (by decide) u5 (wantA ms l0 i) (⟨x0, x1⟩ : S38) [.string x0, .string x1] (fun _ => True) (fun _ => False) rfl (by first | (go_simp; done) | (go_simp; rfl)) (k38_mkM _ _ _ (⟨x0, x1⟩ : S38)) (fun _ hk => hk.elim) (fun _ _ => trivial) (Kd.R_below HR.out BX.out) (HB.out.trans (BX.out.mono HB.out.size)) (Nat.le_trans HB.out.size BX.out.size) (by omega) ?_; intro v4 w4 hr4 hb4 _ _; have R4 := Lib.hid hr4; have B4 := Lib.hid hb4; clear hr4 hb4)
            go_roundg (gk - 1)
            case measure => omega
            case rel => exact ⟨i + 1, by first | rfl | go_num, by omega, by omega, by rw [HU.out]; exact R4, B4⟩
          | false =>
            rw [hb] at c4 hkb
            have HU := Lib.hid (show wantA ms l0 (i + 1) = wantA ms l0 i by rw [wantA, hkb, if_neg (by decide)])
            clear hb hkb
            go_wp2
            go_roundg (gk - 1)
            case measure => omega
            case rel => exact ⟨i + 1, by first | rfl | go_num, by omega, by omega, by rw [HU.out]; exact Lib.hid (Kd.R_below HR.out BX.out), Lib.hid (HB.out.trans (BX.out.mono HB.out.size))⟩
        · have m1 : ¬ (i : Int) < (ms.length : Int) := by omega
          have hkb : kb ms i = false := by unfold kb; rw [decide_eq_false hm, Bool.false_and]
          have HU := Lib.hid (show wantA ms l0 (i + 1) = wantA ms l0 i by rw [wantA, hkb, if_neg (by decide)])
          clear hkb RX
          go_wp2
          go_roundg (gk - 1)
          case measure => omega
          case rel => exact ⟨i + 1, by first | rfl | go_num, by omega, by omega, by rw [HU.out]; exact Lib.hid (Kd.R_below HR.out BX.out), Lib.hid (HB.out.trans (BX.out.mono HB.out.size))⟩
      · obtain rfl : i = l0.length := by omega
        clear hi hgk hlt
        obtain ⟨X, hX⟩ : ∃ X, l0.map to37 = X := ⟨_, rfl⟩
        have hXl : X.length = l0.length := by rw [← hX, List.length_map]
        have hXb : X.map to38 = l0 := by rw [← hX, back_map]
        obtain ⟨Y, hY⟩ : ∃ Y, kept ms X X.length = Y := ⟨_, rfl⟩
        obtain ⟨Wt, hWt⟩ : ∃ Wt, wantA ms l0 l0.length = Wt := ⟨_, rfl⟩
        have hYW : Y.map to38 = Wt := by rw [← hY, ← hWt, hXl, ← hX, kept_want _ _ _ (Nat.le_refl _)]
        have hYl : Y.length ≤ 30 := by rw [← hY]; have := kept_le ms X X.length; omega
        have hWl : Wt.length ≤ 30 := by rw [← hYW, List.length_map]; exact hYl
        have HOf := Lib.hid (decanterlaw06_Of.calls 40 A0 c0 l0 X wr (Kd.C_below R0.out BR.out) hc0 (by rw [← hX]; exact of_eq l0 (by omega) 40 (by omega)))
        rw [hWt] at HR
        obtain ⟨A5, k5, rfl, hle5, _⟩ := Kd.R_reads HR.out
        have L5 := Lib.hid hle5
        have HXl := Lib.hid hXl
        have HXb := Lib.hid hXb
        have HYd := Lib.hid hY
        have HYW := Lib.hid hYW
        clear hX hXl hXb hY hWt hYW hle5
        go_upto_region 11 with (go_at_call 17; refine HOf.out.mono ?_; rintro e w2 ⟨v2, rfl, hr2, hb2⟩; obtain ⟨A2, k2, rfl, hle2, hC2⟩ := Kd.R_reads hr2; have R2 := Lib.hid hr2; have L2 := Lib.hid (And.intro hle2 hC2); have B2 := Lib.hid hb2; clear hr2 hb2 hle2 hC2)
        have AK := blk_below (blk_below AL.out HB.out) B2.out
        have MK := blk_below MR.out B2.out
        have BK := BR.out.trans (B2.out.mono BR.out.size)
        have E := Lib.hid (show Env w2 w w1.heap.size w.heap.size Am cm ms from ⟨blk_lt' AK, blk_lt' MK, Nat.ne_of_lt z1.out, MK, BK, Nat.le_of_lt z1.out, RM.out⟩)
        have HKp := Lib.hid (keep_calls E.out AK L2.out.2 L2.out.1 (by have := HXl.out; omega))
        have HAK := Lib.hid AK
        clear AK MK BK
        go_upto_region 12 with (go_at_call 19; refine HKp.out.mono ?_; rintro e w3 ⟨A3, k3, rfl, hd⟩; rw [HYd.out] at hd ⊢; have HD := Lib.hid hd; clear hd)
        obtain ⟨d1, d2, d3, v3, d4, d5⟩ := HD.out
        obtain ⟨A4, k4, rfl, d6, d7⟩ := Kd.R_reads d5
        rw [HXb.out] at d4 d6 d7
        have WR := Kd.R_step (w1 := w3) (only38 (Kd.R_below HR.out B2.out)) fun k hk hlt => d3.block k hlt (by
          obtain ⟨c2, hc2⟩ := Kd.R_typed (Kd.R_below HR.out B2.out) k hk
          exact types_ne hc2 HAK.out (by decide))
        have LR := Kd.R_step (w1 := w3) (only37 R2.out) fun k hk hlt => d3.block k hlt (by
          obtain ⟨c2, hc2⟩ := Kd.R_typed R2.out k hk
          exact types_ne hc2 HAK.out (by decide))
        have WC := (Kd.R_reads' WR).2.2
        have LC := (Kd.R_reads' LR).2.2
        have B3 := Lib.hid (d3.old E.out.hB E.out.hB0 E.out.hB.size)
        have AC := Kd.C_below R0.out B3.out
        have CA := Lib.hid (fun (W : World) (hW : Below w3.heap.size w3 W) => show W.cell? ⟨w1.heap.size, 0, none⟩ = some (.slice A4 l0.length k4) from blk_cell (blk_below d4 hW) 0)
        have HT1 := Lib.hid (decanterlaw06_To.calls 40 A3 k3 Y Wt w3 d2 d1 (by rw [← HYW.out]; exact to_eq Y (by omega) 40 (by omega)))
        have HT2 := Lib.hid (fun (W : World) (hW : Below w3.heap.size w3 W) => decanterlaw06_To.calls 40 A2 k2 X l0 W (Kd.C_below LC hW) L2.out.1 (by rw [← HXb.out]; exact to_eq X (by have := HXl.out; omega) 40 (by have := HXl.out; omega)))
        have HA1 := Lib.hid (fun (W : World) (hW : Below w3.heap.size w3 W) (A : Option Addr) (c : Nat) (hC : Kd.C k38 W A Wt.length Wt) (hle : Wt.length ≤ c) => decanterref06_Alike.calls 40 A c Wt A5 k5 Wt true W hC hle (Kd.C_below WC hW) L5.out (alike_eq Wt (by omega) 40 (by omega)))
        have HA2 := Lib.hid (fun (W : World) (hW : Below w3.heap.size w3 W) => decanterref06_Alike.calls 40 A4 k4 l0 A0 c0 l0 true W (Kd.C_below d7 hW) d6 (Kd.C_below AC hW) hc0 (alike_eq l0 (by omega) 40 (by omega)))
        have HA3 := Lib.hid (fun (W : World) (hW : Below w3.heap.size w3 W) (A : Option Addr) (c : Nat) (hC : Kd.C k38 W A l0.length l0) (hle : l0.length ≤ c) => decanterref06_Alike.calls 40 A c l0 A0 c0 l0 true W hC hle (Kd.C_below AC hW) hc0 (alike_eq l0 (by omega) 40 (by omega)))
        clear d1 d2 d3 d4 d5 d6 d7 WR LR WC LC AC
        go_wp2_with (first
          | (go_at_call 22; refine HT1.out.mono ?_; rintro e w4 ⟨v6, rfl, hr6, hb6⟩; obtain ⟨A6, k6, rfl, hle6, hC6⟩ := Kd.R_reads hr6; have C6 := Lib.hid (And.intro hle6 hC6); have B4 := Lib.hid hb6; clear hr6 hb6 hle6 hC6 HT1)
          | (go_at_call 21; refine (HA1.out _ B4.out _ _ C6.out.2 C6.out.1).mono ?_; rintro e w5 ⟨rfl, hd5⟩; have B5 := Lib.hid (B4.out.trans ((Drawn0.below hd5).mono B4.out.size)); have c9 := CA.out _ B5.out; clear hd5 HA1)
          | (go_at_call 21; refine (HA2.out _ B5.out).mono ?_; rintro e w6 ⟨rfl, hd6⟩; have B6 := Lib.hid (B5.out.trans ((Drawn0.below hd6).mono B5.out.size)); clear hd6 HA2)
          | (go_at_call 22; refine (HT2.out _ B6.out).mono ?_; rintro e w7 ⟨v7, rfl, hr7, hb7⟩; obtain ⟨A7, k7, rfl, hle7, hC7⟩ := Kd.R_reads hr7; have C7 := Lib.hid (And.intro hle7 hC7); have B7 := Lib.hid (B6.out.trans (hb7.mono B6.out.size)); clear hr7 hb7 hle7 hC7 HT2)
          | (go_at_call 21; refine (HA3.out _ B7.out _ _ C7.out.2 C7.out.1).mono ?_; rintro e w8 ⟨rfl, hd8⟩; have B8 := Lib.hid (B7.out.trans ((Drawn0.below hd8).mono B7.out.size)); clear hd8 HA3))
        go_ret
        exact ⟨rfl, B3.out.trans (B8.out.mono B3.out.size)⟩
  · have g1 : (30 : Int) < (l0.length : Int) := by omega
    have g2 : decide ((30 : Int) < (l0.length : Int)) = true := decide_eq_true g1
    go_enter Try.func7, Try.ntmps7
    go_wp2_with (go_at_call 13; first | (refine (CS.out (w.alloc (.cells #[.slice Am ms.length cm] 47))).mono ?_; rintro e w1 ⟨rfl, hb1⟩; have B1 := Lib.hid (BB.out.trans (hb1.mono BB.out.size)); clear hb1) | (refine (CS.out _).mono ?_; rintro e w2 ⟨rfl, hb2⟩; have B2 := Lib.hid (B1.out.trans (hb2.mono B1.out.size)); clear hb2))
    go_ret
    exact ⟨rfl, B2.out⟩
end Go.Proofs.Ytfkgklbaafbbiaa.Keep
