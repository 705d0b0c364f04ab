/-
  attr.Keep: the search and the deleting, over a closure that tells what it was asked.
-/
import Derived.Test.YtfkgklbaafbbiaaKeepState
namespace Go.Proofs.Ytfkgklbaafbbiaa.Keep
open Go.RowKit Go.Shelf Go.Proofs.Ytfkgklbaafbbiaa.PAKeep Go.Proofs.YtfkgklbaafbbiaaW.PrintWords Go.Proofs.YtfkgklbaafbbiaaW.PrintLast Go.Proofs.YtfkgklbaafbbiaaW.PrintMore
set_option linter.unusedVariables false
/-- What stands still while it runs. -/
structure Env (Wk W0 : World) (ab mb : Nat) (Am : Option Addr) (cm : Nat) (ms : List Bool) : Prop where
  hab : ab < Wk.heap.size
  hmb : mb < Wk.heap.size
  hne : mb ≠ ab
  hm : Wk.heap[mb]? = some (.cells #[.slice Am ms.length cm] 47 (0, 0))
  hB : Below W0.heap.size W0 Wk
  hB0 : W0.heap.size ≤ ab
  hms : ReadsOf Value.bool false W0 Am ms.length ms
variable {Wk W0 : World} {ab mb fb : Nat} {Am : Option Addr} {cm : Nat} {ms : List Bool} {sv : Value}
set_option maxRecDepth 100000 in
set_option maxHeartbeats 1000000 in
theorem not_calls (E : Env Wk W0 ab mb Am cm ms) {q : List S38} {X : List S37} {W : World} (h : JJ Wk ab fb (askF ab mb) sv q X W) (hq : q.length ≤ 1000) (x : S37) :
    Calls Try.prog 27 #[.agg #[.string x.f0, .string x.f1], .pointer (some ⟨fb, 0, none⟩)] W fun e w' => e = .returned (.bool (!kb ms q.length)) ∧ JJ Wk ab fb (askF ab mb) sv (q ++ [to38 x]) X w' ∧ Ke ab W w' := by
  obtain ⟨x0, x1⟩ := x
  have BA := Lib.hid ((Below.refl W.heap.size W).alloc (Nat.le_refl _) (.cells #[.string x0, .string x1] 37))
  have HC := Lib.hid (asks_calls (h.below BA.out) E.hab E.hmb E.hne E.hm E.hB E.hB0 E.hms hq x0 x1)
  have e1 : (W.alloc (.cells #[.string x0, .string x1] 37)).cell? ⟨fb, 0, none⟩ = some (askF ab mb) := (BA.out.cell (p := ⟨fb, 0, none⟩) (blk_lt' h.fbx)).trans (blk_cell h.fbx 0)
  unfold askF at e1
  clear h
  generalize kb ms q.length = bb at *
  go_enter Try.func27, Try.ntmps27
  go_wp2_with (refine HC.out.mono ?_; rintro e w1 ⟨rfl, h1, h2⟩; have H1 := Lib.hid h1; have H2 := Lib.hid h2; clear h1 h2)
  go_ret
  exact ⟨rfl, H1.out, fun k o hk hne ht => H2.out k o (blk_alloc hk _) hne ht⟩
theorem el_at {A : Option Addr} {c : Nat} {X : List S37} {W : World} {base : Nat} {ok : Nat → Prop} (h : Kd.R k37 37 W base ok (.slice A X.length c) X) (i : Nat) (hi : i < X.length) :
    ∃ ad x, A = some ad ∧ X[i]? = some x ∧ W.cell? (ad.add (i * 2)) = some (.string x.f0) ∧ W.cell? ⟨(ad.add (i * 2)).block, (ad.add (i * 2)).off + 1, none⟩ = some (.string x.f1) := by
  obtain ⟨_, _, hC⟩ := Kd.R_reads' h
  obtain ⟨ad, hA, h0, h1⟩ := at_T37 hC (i : Int) (by omega) (by omega)
  rw [Int.toNat_natCast] at h0 h1
  have hx : X[i]? = some X[i] := List.getElem?_eq_getElem hi
  have hr : rd_T37 X (i : Int) = X[i] := by unfold rd_T37; rw [Int.toNat_natCast, List.getD_eq_getElem?_getD, hx, Option.getD_some]
  rw [hr] at h0 h1
  exact ⟨ad, X[i], hA, hx, h0, h1⟩
theorem el_at2 {A : Option Addr} {n c : Nat} {Z : List S37} {W : World} {base : Nat} {ok : Nat → Prop} (h : Kd.R k37 37 W base ok (.slice A n c) Z) (i : Nat) (hi : i < n) :
    ∃ ad x, A = some ad ∧ Z[i]? = some x ∧ W.cell? (ad.add (i * 2)) = some (.string x.f0) ∧ W.cell? ⟨(ad.add (i * 2)).block, (ad.add (i * 2)).off + 1, none⟩ = some (.string x.f1) := by
  obtain ⟨hn, _, _⟩ := Kd.R_reads' h
  subst hn
  exact el_at h i hi
theorem el_at3 {g n c : Nat} {Z : List S37} {W : World} {base : Nat} {ok : Nat → Prop} (h : Kd.R k37 37 W base ok (.slice (some ⟨g, 0, none⟩) n c) Z) (i : Nat) (hi : i < n) :
    ∃ x, Z[i]? = some x ∧ W.cell? ⟨g, i * 2, none⟩ = some (.string x.f0) ∧ W.cell? ⟨g, i * 2 + 1, none⟩ = some (.string x.f1) := by
  obtain ⟨ad, x, hA, hx, h0, h1⟩ := el_at2 h i hi
  cases hA
  have ha : (⟨g, 0, none⟩ : Addr).add (i * 2) = ⟨g, i * 2, none⟩ := by
    unfold Addr.add
    split <;> simp_all
  rw [ha] at h0 h1
  exact ⟨x, hx, h0, h1⟩
theorem take_snoc {α β : Type} (f : α → β) (X : List α) (i : Nat) (x : α) (h : X[i]? = some x) : (X.take i).map f ++ [f x] = (X.take (i + 1)).map f := by
  rw [List.take_add_one, h, List.map_append]
  rfl
set_option maxRecDepth 100000 in
set_option maxHeartbeats 4000000 in
theorem index_calls (E : Env Wk W0 ab mb Am cm ms) {A : Option Addr} {c : Nat} {X : List S37} {w : World} (h : JJ Wk ab fb (askF ab mb) (.slice A X.length c) [] X w) (hX : X.length ≤ 900) :
    Calls Try.prog 28 #[.slice A X.length c, .func (.func 27) #[] #[.pointer (some ⟨fb, 0, none⟩)]] w fun e w' => ∃ k : Nat, (∀ j, j < k → kb ms j = true) ∧
      ((k < X.length ∧ kb ms k = false ∧ e = .returned (.int .i64 (k : Int)) ∧ JJ Wk ab fb (askF ab mb) (.slice A X.length c) ((X.take (k + 1)).map to38) X w') ∨
        (k = X.length ∧ e = .returned (.int .i64 (-1)) ∧ JJ Wk ab fb (askF ab mb) (.slice A X.length c) (X.map to38) X w')) := by
  have HJ := Lib.hid h
  have eg : ∀ args w, (callFunc 27 args).run Try.prog w = .ok (.enter 27 args) w := enters_of Try.func27 (by kernel_rfl) rfl
  have HE := Lib.hid E
  clear h E
  go_enter Try.func28, Try.ntmps28
  go_wp2
  go_loopg [5, 8] (X.length + 1) (fun gg s5 s8 wr => ∃ i : Nat, s8 = .int .i64 (i : Int) ∧ i ≤ X.length ∧ i + gg = X.length + 1 ∧ Hid (∀ j, j < i → kb ms j = true) ∧ Hid (JJ Wk ab fb (askF ab mb) (.slice A X.length c) ((X.take i).map to38) X wr))
  case atStart => exact ⟨0, rfl, Nat.zero_le _, by omega, Lib.hid (fun j hj => by omega), HJ⟩
  case round =>
    clear HJ
    obtain ⟨i, rfl, hi, hgk, HK, HJ⟩ := hrel
    by_cases hlt : i < X.length
    · obtain ⟨ad, x, rfl, hx, E0, E1⟩ := el_at HJ.out.row i hlt
      have i1 : (i : Int) < (X.length : Int) := by omega
      have i0 : (0 : Int) ≤ (i : Int) := by omega
      have hlen : ((X.take i).map to38).length = i := by rw [List.length_map, List.length_take]; omega
      have HC := not_calls HE.out HJ.out (by rw [hlen]; omega) x
      rw [hlen, take_snoc to38 X i x hx] at HC
      have HC := Lib.hid HC
      clear hlen hx
      obtain ⟨x0, x1⟩ := x
      simp only at E0 E1
      cases hb : kb ms i with
      | false =>
        rw [hb] at HC
        have HB := Lib.hid hb
        clear hb
        go_wp2_with (refine HC.out.mono ?_; rintro e w1 ⟨rfl, hJ, _⟩; have J1 := Lib.hid hJ; clear hJ)
        go_ret
        exact ⟨i, HK.out, .inl ⟨hlt, HB.out, rfl, J1.out⟩⟩
      | true =>
        rw [hb] at HC
        have HB := Lib.hid hb
        clear hb
        go_wp2_with (refine HC.out.mono ?_; rintro e w1 ⟨rfl, hJ, _⟩; have J1 := Lib.hid hJ; clear hJ)
        go_roundg (gk - 1)
        case measure => omega
        case rel => exact ⟨i + 1, rfl, by omega, by omega, Lib.hid (fun j hj => by
          by_cases e : j = i
          · rw [e]; exact HB.out
          · exact HK.out j (by omega)), J1⟩
    · have hi2 : i = X.length := by omega
      have hJ := HJ.out
      rw [List.take_of_length_le (by omega)] at hJ
      have J1 := Lib.hid hJ
      have i1 : ¬ (i : Int) < (X.length : Int) := by omega
      clear hJ HJ
      go_wp2
      go_ret
      exact ⟨i, HK.out, .inr ⟨hi2, rfl, J1.out⟩⟩
theorem clear_rows (w : World) (g o n c : Nat) (hn : 0 < n) (hc : ∀ j, j < n * 2 → (w.cell? ⟨g, o + j, none⟩).isSome = true) (hf : ∀ j, j < n * 2 → w.frozen? ⟨g, o + j, none⟩ = false) :
    ∃ L : List Value, L.length = n * 2 ∧ ∀ ty, (Builtin.clear_ #[34] ty #[.slice (some ⟨g, o, none⟩) n c]).run Try.prog w = .ok (.tuple #[]) (w.setCells g o L) := by
  refine ⟨(Builtin.zeroCells #[.string ⟨#[]⟩, .string ⟨#[]⟩] n).toList, by simp [Builtin.zeroCells], fun ty => ?_⟩
  have hz : ∀ W, (zeroValue 37).run Try.prog W = .ok (.agg #[.string ⟨#[]⟩, .string ⟨#[]⟩]) W := fun W => by go_simp
  have h1 : ∀ v ∈ (Builtin.zeroCells #[.string ⟨#[]⟩, .string ⟨#[]⟩] n).toList, v.oneCell' = true := fun v hv => by
    simp [Builtin.zeroCells] at hv
    obtain ⟨k, _, rfl⟩ := hv
    have : k % 2 = 0 ∨ k % 2 = 1 := by omega
    rcases this with e | e <;> simp [e, Value.oneCell']
  have hl : (Builtin.zeroCells #[.string ⟨#[]⟩, .string ⟨#[]⟩] n).toList.length = n * 2 := by simp [Builtin.zeroCells]
  have hst := run_storeCells_cells (P := Try.prog) g o (Builtin.zeroCells #[.string ⟨#[]⟩, .string ⟨#[]⟩] n).toList 0 w (by rw [hl]; simpa using hc) (by rw [hl]; simpa using hf) h1
  simp only [Nat.add_zero] at hst
  obtain ⟨m, rfl⟩ : ∃ m, n = m + 1 := ⟨n - 1, by omega⟩
  simp [Builtin.clear_, run_underlying Try.underlying34, hz, Value.cells, hst]
theorem first_false (f : Nat → Bool) : ∀ n, ∃ k, k ≤ n ∧ (∀ j, j < k → f j = true) ∧ (k < n → f k = false)
  | 0 => ⟨0, Nat.le_refl _, fun j hj => by omega, fun h => by omega⟩
  | n + 1 => by
    obtain ⟨k, h1, h2, h3⟩ := first_false f n
    by_cases hk : k < n
    · exact ⟨k, by omega, h2, fun _ => h3 hk⟩
    · obtain rfl : k = n := by omega
      cases hf : f k with
      | true => exact ⟨k + 1, Nat.le_refl _, fun j hj => by
          by_cases e : j = k
          · rw [e]; exact hf
          · exact h2 j (by omega), fun h => by omega⟩
      | false => exact ⟨k, by omega, h2, fun _ => hf⟩
/-- Those that are kept, of the first ones. -/
def kept (ms : List Bool) (X : List S37) : Nat → List S37
  | 0 => []
  | j + 1 => if kb ms j = true then kept ms X j ++ [X.getD j z37] else kept ms X j
theorem kept_all {ms : List Bool} {X : List S37} : ∀ {n : Nat}, n ≤ X.length → (∀ j, j < n → kb ms j = true) → kept ms X n = X.take n
  | 0, _, _ => by simp [kept]
  | n + 1, hn, h => by
    rw [kept, if_pos (h n (by omega)), kept_all (by omega) (fun j hj => h j (by omega)), List.take_add_one, List.getElem?_eq_getElem (by omega), List.getD_eq_getElem?_getD, List.getElem?_eq_getElem (by omega)]
    rfl
theorem kept_le (ms : List Bool) (X : List S37) : ∀ j, (kept ms X j).length ≤ j
  | 0 => Nat.le_refl _
  | j + 1 => by
    have := kept_le ms X j
    rw [kept]
    split
    · rw [List.length_append, List.length_singleton]; omega
    · omega
/-- What it leaves. -/
def Done (Wk : World) (ab : Nat) (ms : List Bool) (X : List S37) (e : Ending) (w' : World) : Prop := ∃ A' c', e = .returned (.slice A' (kept ms X X.length).length c') ∧ (kept ms X X.length).length ≤ c' ∧ Kd.C k37 w' A' (kept ms X X.length).length (kept ms X X.length) ∧
  Fr ab Wk w' ∧ ∃ v, w'.heap[ab]? = some (.cells #[v] 33 (0, 0)) ∧ Kd.R k38 38 w' Wk.heap.size (own v) v (X.map to38)
set_option maxRecDepth 100000 in
set_option maxHeartbeats 4000000 in
theorem delete_calls (E : Env Wk W0 ab mb Am cm ms) {A : Option Addr} {c : Nat} {X : List S37} {w : World} (h : JJ Wk ab fb (askF ab mb) (.slice A X.length c) [] X w) (hX : X.length ≤ 900) :
    Calls Try.prog 26 #[.slice A X.length c, .func (.func 27) #[] #[.pointer (some ⟨fb, 0, none⟩)]] w fun e w' => Done Wk ab ms X e w' := by
  have HE := Lib.hid E
  have IC := index_calls E h hX
  have HR := Lib.hid h.row
  have eg : ∀ args w, (callFunc 27 args).run Try.prog w = .ok (.enter 27 args) w := enters_of Try.func27 (by kernel_rfl) rfl
  obtain ⟨k0, hk1, hk2, hk3⟩ := first_false (kb ms) X.length
  by_cases hk : k0 < X.length
  · have hb0 := hk3 hk
    have IC := Lib.hid (show Calls Try.prog 28 #[.slice A X.length c, .func (.func 27) #[] #[.pointer (some ⟨fb, 0, none⟩)]] w (fun e w' => e = .returned (.int .i64 (k0 : Int)) ∧ JJ Wk ab fb (askF ab mb) (.slice A X.length c) ((X.take (k0 + 1)).map to38) X w') from IC.mono fun e w' ⟨k, q1, q2⟩ => by
      rcases q2 with ⟨q3, q4, q5, q6⟩ | ⟨q3, q5, q6⟩
      · obtain rfl : k = k0 := by
          rcases Nat.lt_trichotomy k k0 with e | e | e
          · rw [hk2 k e] at q4; cases q4
          · exact e
          · rw [q1 k0 e] at hb0; cases hb0
        exact ⟨q5, q6⟩
      · rw [q1 k0 (by omega)] at hb0
        cases hb0)
    obtain ⟨sb, cap, hA, _, _, _, _⟩ := Kd.R_form h.row (by omega)
    injection hA with hA hA1 hA2
    subst hA
    subst hA2
    have b1 : ((k0 : Int) == -1) = false := beq_eq_false_iff_ne.2 (by omega)
    have hwk : IntKind.i64.wrap ((k0 : Int) + 1) = ((k0 + 1 : Nat) : Int) := by rw [IntWalk.i64_in _ (by omega)]; rfl
    have HK := Lib.hid (show kept ms X (k0 + 1) = X.take k0 by rw [kept, hb0, if_neg (by decide), kept_all (by omega) hk2])
    clear h hk1 hk2 hk3 hb0 E
    go_enter Try.func26, Try.ntmps26
    go_upto_region 2 with (go_at_call 28; refine IC.out.mono ?_; rintro e w1 ⟨rfl, hJ⟩; have J1 := Lib.hid hJ; clear hJ)
    go_wp2_with fail
    go_loopg [5, 6, 7] (X.length + 1) (fun gg s5 s6 s7 wr => ∃ (i j : Nat) (Z : List S37), s5 = .int .i64 (i : Int) ∧ s6 = .int .i64 (j : Int) ∧ i + 1 ≤ j ∧ j ≤ X.length ∧ X.length + 1 ≤ j + gg ∧
      Hid (i = (kept ms X j).length ∧ Z.length = X.length ∧ Z.take i = kept ms X j ∧ Z.drop j = X.drop j) ∧ Hid (JJ Wk ab fb (askF ab mb) (.slice (some ⟨sb, 0, none⟩) X.length c) ((X.take j).map to38) Z wr))
    case atStart => exact ⟨k0, k0 + 1, X, rfl, by first | rfl | go_num, Nat.le_refl _, by omega, by omega, Lib.hid ⟨by rw [HK.out, List.length_take]; omega, rfl, HK.out.symm, rfl⟩, J1⟩
    case round =>
      clear J1 IC
      obtain ⟨i, j, Z, rfl, rfl, hij, hj, hgk, HZ, HJ⟩ := hrel
      have hwj : IntKind.i64.wrap ((j : Int) + 1) = ((j + 1 : Nat) : Int) := by rw [IntWalk.i64_in _ (by omega)]; rfl
      have hwi : IntKind.i64.wrap ((i : Int) + 1) = ((i + 1 : Nat) : Int) := by rw [IntWalk.i64_in _ (by omega)]; rfl
      by_cases hlt : j < X.length
      · obtain ⟨x, hx, E0, E1⟩ := el_at3 HJ.out.row j hlt
        have HX := Lib.hid (show X[j]? = some x by
          have e1 : (Z.drop j)[0]? = Z[j]? := by rw [List.getElem?_drop, Nat.add_zero]
          have e2 : (X.drop j)[0]? = X[j]? := by rw [List.getElem?_drop, Nat.add_zero]
          rw [← e2, ← HZ.out.2.2.2, e1, hx])
        have i1 : (j : Int) < (X.length : Int) := by omega
        have i0 : (0 : Int) ≤ (j : Int) := by omega
        have i2 : (i : Int) < (X.length : Int) := by omega
        have i3 : (0 : Int) ≤ (i : Int) := by omega
        clear hx
        obtain ⟨x0, x1⟩ := x
        simp only at E0 E1
        have hlen : ((X.take j).map to38).length = j := by rw [List.length_map, List.length_take]; omega
        have hfs := HJ.out.fr.size
        have BA := Lib.hid ((Below.refl wr.heap.size wr).alloc (Nat.le_refl _) (.cells #[.string x0, .string x1] 37))
        have HC := not_calls HE.out (HJ.out.below BA.out) (by rw [hlen]; omega) ⟨x0, x1⟩
        rw [hlen, take_snoc to38 X j ⟨x0, x1⟩ HX.out] at HC
        have hgd : X.getD j z37 = ⟨x0, x1⟩ := by rw [List.getD_eq_getElem?_getD, HX.out, Option.getD_some]
        have hne : wr.heap.size ≠ ab := by have := HE.out.hab; omega
        have HN := Lib.hid hne
        have HG := Lib.hid hgd
        clear hlen hfs hgd hne
        cases hb : kb ms j with
        | true =>
          have HKE := Lib.hid (show kept ms X (j + 1) = kept ms X j ++ [⟨x0, x1⟩] by rw [kept, if_pos hb, HG.out])
          rw [hb] at HC
          have HC := Lib.hid HC
          clear hb
          go_upto_region 9 with (refine HC.out.mono ?_; rintro e w1 ⟨rfl, h1, h2⟩; have J1 := Lib.hid h1; have K1 := Lib.hid h2; clear h1 h2)
          have bx := K1.out wr.heap.size _ (blk_new wr (.cells #[.string x0, .string x1] 37)) HN.out (fun cs e => by cases e)
          have b70 := blk_cell bx 0
          have b71 := blk_cell bx 1
          simp only [List.getElem?_toArray, List.getElem?_cons_zero, List.getElem?_cons_succ] at b70 b71
          obtain ⟨y, _, F0, F1⟩ := el_at3 J1.out.row i (by omega)
          obtain ⟨cs, hcs⟩ := Kd.R_typed J1.out.row sb rfl
          have G0 := blk_frozen hcs (i * 2)
          have G1 := blk_frozen hcs (i * 2 + 1)
          have RS := Kd.R_seg (d := k37) J1.out.row (i : Int) (by omega) (by omega) (c := [.string y.f0, .string y.f1]) (seg := [.string x0, .string x1]) (j := 0) (x' := ⟨x0, x1⟩) (okp := fun _ => False) rfl (fun jj u hu => by
            match jj, hu with
            | 0, hu => cases hu; exact F0
            | 1, hu => cases hu; exact F1) (show 0 + 2 ≤ 2 from by decide) (k37_mkM _ _ _ (⟨x0, x1⟩ : S37)) (fun _ h => h.elim)
          have J3 := Lib.hid (show JJ Wk ab fb (askF ab mb) (.slice (some ⟨sb, 0, none⟩) X.length c) ((X.take (j + 1)).map to38) (Z.set i ⟨x0, x1⟩) ((w1.setCell ⟨sb, i * 2, none⟩ (.string x0)).setCell ⟨sb, i * 2 + 1, none⟩ (.string x1)) from J1.out.stored rfl RS.2 RS.1)
          have HZ2 := Lib.hid (show (i + 1) = (kept ms X (j + 1)).length ∧ (Z.set i ⟨x0, x1⟩).length = X.length ∧ (Z.set i ⟨x0, x1⟩).take (i + 1) = kept ms X (j + 1) ∧ (Z.set i ⟨x0, x1⟩).drop (j + 1) = X.drop (j + 1) by
            obtain ⟨z1, z2, z3, z4⟩ := HZ.out
            rw [HKE.out]
            refine ⟨by rw [List.length_append, List.length_singleton, ← z1], by rw [List.length_set]; exact z2, ?_, ?_⟩
            · rw [List.take_add_one, List.take_set_of_le (Nat.le_refl _), z3, List.getElem?_set_self (by omega)]
              rfl
            · rw [List.drop_set_of_lt (by omega), ← List.drop_drop, ← List.drop_drop, z4])
          clear RS bx hcs
          go_wp2
          go_roundg (gk - 1)
          case measure => omega
          case rel => exact ⟨i + 1, j + 1, _, by first | rfl | go_num, by first | rfl | go_num, by omega, by omega, by omega, HZ2, J3⟩
        | false =>
          have HKE := Lib.hid (show kept ms X (j + 1) = kept ms X j by rw [kept, hb, if_neg (by decide)])
          rw [hb] at HC
          have HC := Lib.hid HC
          clear hb
          go_wp2_with (refine HC.out.mono ?_; rintro e w1 ⟨rfl, h1, h2⟩; have J1 := Lib.hid h1; clear h1 h2)
          go_roundg (gk - 1)
          case measure => omega
          case rel => exact ⟨i, j + 1, Z, rfl, by first | rfl | go_num, by omega, by omega, by omega, Lib.hid ⟨by rw [HKE.out]; exact HZ.out.1, HZ.out.2.1, by rw [HKE.out]; exact HZ.out.2.2.1, by rw [← List.drop_drop, ← List.drop_drop, HZ.out.2.2.2]⟩, J1⟩
      · have hj2 : j = X.length := by omega
        have i1 : ¬ (j : Int) < (X.length : Int) := by omega
        have hcc := (Kd.R_reads' HJ.out.row).2.1
        have i2 : (i : Int) ≤ (X.length : Int) := by omega
        have i3 : (0 : Int) ≤ (i : Int) := by omega
        have i4 : (X.length : Int) ≤ (c : Int) := by omega
        have i5 : (i : Int) ≤ (c : Int) := by omega
        obtain ⟨cs, hcs⟩ := Kd.R_typed HJ.out.row sb rfl
        obtain ⟨L, hL, hcl⟩ := clear_rows wr sb (i * 2) (X.length - i) (c - i) (by omega) (fun t ht => by
          obtain ⟨y, _, F0, F1⟩ := el_at3 HJ.out.row (i + t / 2) (by omega)
          have : t % 2 = 0 ∨ t % 2 = 1 := by omega
          rcases this with e | e
          · rw [show i * 2 + t = (i + t / 2) * 2 by omega, F0]; rfl
          · rw [show i * 2 + t = (i + t / 2) * 2 + 1 by omega, F1]; rfl) (fun t ht => blk_frozen hcs _)
        have HD := Lib.hid (show Done Wk ab ms X (.returned (.slice (some ⟨sb, 0, none⟩) i c)) (wr.setCells sb (i * 2) L) by
          obtain ⟨z1, z2, z3, z4⟩ := HZ.out
          rw [hj2] at z1 z3
          have hfar : ∀ k, k ≠ sb → (wr.setCells sb (i * 2) L).heap[k]? = wr.heap[k]? := fun k hk => setCells_far L (i * 2) k hk
          obtain ⟨s1, s2, s3, s4⟩ := setCells_same sb L (i * 2) wr
          have hC := (Kd.R_reads' HJ.out.row).2.2
          have hC2 := Kd.C_take (m := i) hC (by omega)
          rw [z3] at hC2
          obtain ⟨v, g2, g3⟩ := HJ.out.asked
          have hbs := Kd.R_base HJ.out.row sb rfl
          refine ⟨_, c, by rw [← z1], by omega, ?_, ⟨s1.trans HJ.out.fr.os, s2.trans HJ.out.fr.tape, s3.trans HJ.out.fr.output, by rw [s4]; exact HJ.out.fr.size, fun k hk hne => (hfar k (by omega)).trans (HJ.out.fr.block k hk hne)⟩, v, (hfar ab (types_ne g2 hcs (by decide))).trans g2, ?_⟩
          · obtain ⟨q1, q2, q3⟩ := hC2
            refine ⟨q1, q2, fun hh => ?_⟩
            obtain ⟨ad, hA, hcs2⟩ := q3 hh
            cases hA
            refine ⟨_, rfl, fun jj x hx => ?_⟩
            obtain ⟨cs2, r1, r2, r3⟩ := hcs2 jj x hx
            obtain rfl := k37_open r2
            refine ⟨_, r1, k37_mk _ _, fun t u hu => ?_⟩
            have hjj := (List.getElem?_eq_some_iff.1 hx).1
            have ht : t < 2 := by have := (List.getElem?_eq_some_iff.1 hu).1; simpa using this
            rw [World.cell?_setCells_out sb L (i * 2) wr _ (fun _ _ => .inl ?_)]
            · exact r3 t u hu
            · have : ((⟨sb, 0, none⟩ : Addr).add (jj * k37.sz + t)).off = jj * 2 + t := by
                show ((⟨sb, 0, none⟩ : Addr).add (jj * 2 + t)).off = _
                unfold Addr.add
                split <;> simp_all
              rw [this]
              omega
          · rw [hj2, List.take_length] at g3
            exact Kd.R_step g3 fun k hk hlt => hfar k (by
              obtain ⟨c2, hc2⟩ := Kd.R_typed g3 k hk
              exact types_ne hc2 hcs (by decide)))
        clear hL hcs hcc
        go_wp2
        go_ret
        exact HD.out
  · have IC := Lib.hid (show Calls Try.prog 28 #[.slice A X.length c, .func (.func 27) #[] #[.pointer (some ⟨fb, 0, none⟩)]] w (fun e w' => e = .returned (.int .i64 (-1)) ∧ JJ Wk ab fb (askF ab mb) (.slice A X.length c) (X.map to38) X w') from IC.mono fun e w' ⟨k, q1, q2⟩ => by
      rcases q2 with ⟨q3, q4, q5, q6⟩ | ⟨q3, q5, q6⟩
      · rw [hk2 k (by omega)] at q4
        cases q4
      · exact ⟨q5, q6⟩)
    have hka : kept ms X X.length = X := by rw [kept_all (Nat.le_refl _) (fun j hj => hk2 j (by omega)), List.take_length]
    have HKA := Lib.hid hka
    have b1 : ((-1 : Int) == -1) = true := rfl
    clear h hk1 hk2 hk3 E hka
    go_enter Try.func26, Try.ntmps26
    go_wp2_with (go_at_call 28; refine IC.out.mono ?_; rintro e w1 ⟨rfl, hJ⟩; have J1 := Lib.hid hJ; clear hJ)
    go_ret
    obtain ⟨_, q1, q2⟩ := Kd.R_reads' J1.out.row
    exact ⟨A, c, by rw [HKA.out]; rfl, by rw [HKA.out]; exact q1, by rw [HKA.out]; exact q2, J1.out.fr, J1.out.asked⟩
end Go.Proofs.Ytfkgklbaafbbiaa.Keep
